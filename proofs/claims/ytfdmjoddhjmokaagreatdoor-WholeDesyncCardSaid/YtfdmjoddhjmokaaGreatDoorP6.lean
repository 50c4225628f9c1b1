/- Part of the proof of WholeDesync (see the last text). Conditions: none. Own work; printed by programs of mine. -/
import Derived.Test.YtfdmjoddhjmokaaGreatDoorP5
set_option maxHeartbeats 4000000
namespace Go.Proofs.YtfdmjoddhjmokaaGreatDoor
open Go.RowKit Rex
set_option linter.unusedVariables false
set_option linter.unusedSimpArgs false
set_option maxRecDepth 100000
abbrev FH:Sp:= .pt 242 [.int .i64,.cl (.int .i64 (0)),.cl .aj]
abbrev rP:Type:=(Int×Unit×Unit×Unit)
abbrev GJ:Sp:= .pt 201 [.cl .aj]
abbrev aY:Type:=(Unit×Unit)
abbrev FG:Sp:= .pt 186 [.cl (.int .i32 (0)),.cl (.int .i32 (0)),.cl (.int .i32 (0)),.cl (.int .i32 (0))]
abbrev pD:Type:=(Unit×Unit×Unit×Unit×Unit)
abbrev BS:Sp:= .pt 146 [.int .u32,.int .i64,.int .i64,.cl (.bool false),.int .i64,.int .i64,zh,.int .i64,.int .i64,Sq,.int .i64,.int .i64,.int .i64]
abbrev ni:Type:=(Int×Int×Int×Unit×Int×Int×ig×Int×Int×wE×Int×Int×Int×Unit)
abbrev an:Sp:= .pt 90 [aR,cH,fb,FH,GJ,FG,.mp [.int .i64] false [.int .u32] false,.mp [.int .i64] false [.int .u32] false,.int .i64,.bool,.int .i64,.cl (.int .i64 (0))]
abbrev aQ:Type:=(bg×cB×di×rP×aY×pD×(ca [.int .i64] [.int .u32]×Nat)×(ca [.int .i64] [.int .u32]×Nat)×Int×Bool×Int×Unit×Unit)
abbrev za:Sp:= .pt 90 [jl,BS,fb,FH,GJ,FG,.mp [.int .i64] false [.int .u32] false,.mp [.int .i64] false [.int .u32] false,.int .i64,.bool,.int .i64,.cl (.int .i64 (0))]
abbrev qA:Type:=(cM×ni×di×rP×aY×pD×(ca [.int .i64] [.int .u32]×Nat)×(ca [.int .i64] [.int .u32]×Nat)×Int×Bool×Int×Unit×Unit)
abbrev dp:Sp:= .pt 37 [.cl .aj,.cl .aj,.bool]
abbrev aA:Type:=(Unit×Unit×Bool×Unit)
def mE(es:ca [.int .i64] [.int .u32]):List (Int×Int):=es.map fun e=>(e.1.1,e.2.1.1)
theorem lT {es:ca [.int .i64] [.int .u32]}(h:mE es= []):es= []:=List.map_eq_nil_iff.1 h
theorem sA {es:ca [.int .i64] [.int .u32]} {k v:Int}(h:mE es= [(k,v)]): ∃c,es= [((k,()),(v,()),c)]:=by
 cases es with
 |nil=>cases h
 |cons e t=>
  obtain ⟨⟨a,⟨⟩⟩,⟨b,⟨⟩⟩,c⟩:=e;obtain ⟨h1,h2⟩:=List.cons.inj (show ((a,b):Int×Int)::mE t= [(k,v)] from h);cases h1;exact ⟨c,by rw [lT h2]⟩
def au(m:Int)(p:Sp.T an)(a:PA):Prop:=
 (gT p.1∧0≤p.1.1∧p.1.1≤4294967295)∧(fe p.2.1∧bn p.2.1=a.k)∧((a.hl=false→du p.2.2.1.2.2.1.1)∧p.2.2.1.2.2.2.1=a.cm∧p.2.2.1.2.2.2.2.1=a.hl)∧
 (mE p.2.2.2.2.2.2.1.1=(if a.ow then [(16,a.sm)] else [])∧mE p.2.2.2.2.2.2.2.1.1=(if a.wt then [(16,a.ot)] else []))∧
 (p.2.2.2.2.2.2.2.2.1=a.far∧p.2.2.2.2.2.2.2.2.2.1=a.hl∧p.2.2.2.2.2.2.2.2.2.2.1=a.rs)∧
 (cD p.1=a.d∧cN p.1 m=a.mn∧cN p.1 (1-m)=a.th∧aJ p.1=a.now∧cF p.1=a.F)∧a.sm=iN (n8 16 p.1.1 584)∧(a.df=true↔a.sm≠a.ot)∧(0≤a.sm∧a.sm≤4294967295)
def JL(m:Int)(x0:Sp.T an)(n:Nat)(x:Sp.T an):Prop:=(n=0∧x=x0)∨(n=1∧ ∀a,au m x0 a→a.oA→a.hl=false→au m x a.set∧a.cm<a.se)
def nv(a b:Sp.T an)(P:Prop):Prop:=(True∧True∧True∧True∧True∧True∧True∧True∧a.2.2.2.2.2.2.2.2.1=b.2.2.2.2.2.2.2.2.1∧a.2.2.2.2.2.2.2.2.2.1=b.2.2.2.2.2.2.2.2.2.1∧a.2.2.2.2.2.2.2.2.2.2.1=b.2.2.2.2.2.2.2.2.2.2.1∧(0:Int)=(0:Int))∧(a.1.1=b.1.1∧a.1.2.1=b.1.2.1∧a.1.2.2.1=b.1.2.2.1∧(0:Int)=(0:Int)∧True∧True∧True∧a.1.2.2.2.2.2.2.2.1=b.1.2.2.2.2.2.2.2.1)∧(True∧True∧a.1.2.2.2.2.1.2.2.1=b.1.2.2.2.2.1.2.2.1∧(0:Int)=(0:Int))∧(a.1.2.2.2.2.1.1.1=b.1.2.2.2.2.1.1.1∧(false=false∧(0:Nat)=(0:Nat)∧(0:Nat)=(0:Nat)∧(List.length a.1.2.2.2.2.1.1.2.1)=(List.length b.1.2.2.2.2.1.1.2.1)∧(List.length a.1.2.2.2.2.1.1.2.1)=(List.length b.1.2.2.2.2.1.1.2.1))∧True)∧(false=false∧(0:Nat)=(0:Nat)∧(List.length a.1.2.2.2.2.1.1.2.1)=(List.length b.1.2.2.2.2.1.1.2.1)∧List.take ((List.length b.1.2.2.2.2.1.1.2.1)) a.1.2.2.2.2.1.1.2.1=b.1.2.2.2.2.1.1.2.1)∧(a.1.2.2.2.2.1.2.1.1=b.1.2.2.2.2.1.2.1.1∧(false=false∧(0:Nat)=(0:Nat)∧(0:Nat)=(0:Nat)∧(List.length a.1.2.2.2.2.1.2.1.2.1)=(List.length b.1.2.2.2.2.1.2.1.2.1)∧(List.length a.1.2.2.2.2.1.2.1.2.1)=(List.length b.1.2.2.2.2.1.2.1.2.1))∧True)∧(false=false∧(0:Nat)=(0:Nat)∧(List.length a.1.2.2.2.2.1.2.1.2.1)=(List.length b.1.2.2.2.2.1.2.1.2.1)∧List.take ((List.length b.1.2.2.2.2.1.2.1.2.1)) a.1.2.2.2.2.1.2.1.2.1=b.1.2.2.2.2.1.2.1.2.1)∧(True∧True∧a.1.2.2.2.2.2.1.2.2.1=b.1.2.2.2.2.2.1.2.2.1∧(0:Int)=(0:Int))∧(a.1.2.2.2.2.2.1.1.1=b.1.2.2.2.2.2.1.1.1∧(false=false∧(0:Nat)=(0:Nat)∧(0:Nat)=(0:Nat)∧(List.length a.1.2.2.2.2.2.1.1.2.1)=(List.length b.1.2.2.2.2.2.1.1.2.1)∧(List.length a.1.2.2.2.2.2.1.1.2.1)=(List.length b.1.2.2.2.2.2.1.1.2.1))∧True)∧(false=false∧(0:Nat)=(0:Nat)∧(List.length a.1.2.2.2.2.2.1.1.2.1)=(List.length b.1.2.2.2.2.2.1.1.2.1)∧List.take ((List.length b.1.2.2.2.2.2.1.1.2.1)) a.1.2.2.2.2.2.1.1.2.1=b.1.2.2.2.2.2.1.1.2.1)∧(a.1.2.2.2.2.2.1.2.1.1=b.1.2.2.2.2.2.1.2.1.1∧(false=false∧(0:Nat)=(0:Nat)∧(0:Nat)=(0:Nat)∧(List.length a.1.2.2.2.2.2.1.2.1.2.1)=(List.length b.1.2.2.2.2.2.1.2.1.2.1)∧(List.length a.1.2.2.2.2.2.1.2.1.2.1)=(List.length b.1.2.2.2.2.2.1.2.1.2.1))∧True)∧(false=false∧(0:Nat)=(0:Nat)∧(List.length a.1.2.2.2.2.2.1.2.1.2.1)=(List.length b.1.2.2.2.2.2.1.2.1.2.1)∧List.take ((List.length b.1.2.2.2.2.2.1.2.1.2.1)) a.1.2.2.2.2.2.1.2.1.2.1=b.1.2.2.2.2.2.1.2.1.2.1)∧(a.1.2.2.2.2.2.2.1.1=b.1.2.2.2.2.2.2.1.1∧(false=false∧(0:Nat)=(0:Nat)∧(0:Nat)=(0:Nat)∧(List.length a.1.2.2.2.2.2.2.1.2.1)=(List.length b.1.2.2.2.2.2.2.1.2.1)∧(List.length a.1.2.2.2.2.2.2.1.2.1)=(List.length b.1.2.2.2.2.2.2.1.2.1))∧True)∧(false=false∧(0:Nat)=(0:Nat)∧(List.length a.1.2.2.2.2.2.2.1.2.1)=(List.length b.1.2.2.2.2.2.2.1.2.1)∧List.take ((List.length b.1.2.2.2.2.2.2.1.2.1)) a.1.2.2.2.2.2.2.1.2.1=b.1.2.2.2.2.2.2.1.2.1)∧(a.2.1.1=b.2.1.1∧a.2.1.2.1=b.2.1.2.1∧a.2.1.2.2.1=b.2.1.2.2.1∧false=false∧a.2.1.2.2.2.2.1=b.2.1.2.2.2.2.1∧a.2.1.2.2.2.2.2.1=b.2.1.2.2.2.2.2.1∧True∧a.2.1.2.2.2.2.2.2.2.1=b.2.1.2.2.2.2.2.2.2.1∧a.2.1.2.2.2.2.2.2.2.2.1=b.2.1.2.2.2.2.2.2.2.2.1∧True∧a.2.1.2.2.2.2.2.2.2.2.2.2.1=b.2.1.2.2.2.2.2.2.2.2.2.2.1∧a.2.1.2.2.2.2.2.2.2.2.2.2.2.1=b.2.1.2.2.2.2.2.2.2.2.2.2.2.1∧a.2.1.2.2.2.2.2.2.2.2.2.2.2.2.1=b.2.1.2.2.2.2.2.2.2.2.2.2.2.2.1)∧(((false=false∧(0:Nat)=(0:Nat)∧(0:Nat)=(0:Nat)∧(List.length a.2.1.2.2.2.2.2.2.1.1)=(List.length b.2.1.2.2.2.2.2.2.1.1)∧(List.length a.2.1.2.2.2.2.2.2.1.1)=(List.length b.2.1.2.2.2.2.2.2.1.1))∧True)∧a.2.1.2.2.2.2.2.2.1.2.1=b.2.1.2.2.2.2.2.2.1.2.1∧a.2.1.2.2.2.2.2.2.1.2.2.1=b.2.1.2.2.2.2.2.2.1.2.2.1)∧(false=false∧(0:Nat)=(0:Nat)∧(List.length a.2.1.2.2.2.2.2.2.1.1)=(List.length b.2.1.2.2.2.2.2.2.1.1)∧List.take ((List.length b.2.1.2.2.2.2.2.2.1.1)) a.2.1.2.2.2.2.2.2.1.1=b.2.1.2.2.2.2.2.2.1.1)∧(((false=false∧(0:Nat)=(0:Nat)∧(0:Nat)=(0:Nat)∧(List.length a.2.1.2.2.2.2.2.2.2.2.2.1.1)=(List.length b.2.1.2.2.2.2.2.2.2.2.2.1.1)∧(List.length a.2.1.2.2.2.2.2.2.2.2.2.1.1)=(List.length b.2.1.2.2.2.2.2.2.2.2.2.1.1))∧True)∧a.2.1.2.2.2.2.2.2.2.2.2.1.2.1=b.2.1.2.2.2.2.2.2.2.2.2.1.2.1∧a.2.1.2.2.2.2.2.2.2.2.2.1.2.2.1=b.2.1.2.2.2.2.2.2.2.2.2.1.2.2.1)∧(false=false∧(0:Nat)=(0:Nat)∧(List.length a.2.1.2.2.2.2.2.2.2.2.2.1.1)=(List.length b.2.1.2.2.2.2.2.2.2.2.2.1.1)∧List.take ((List.length b.2.1.2.2.2.2.2.2.2.2.2.1.1)) a.2.1.2.2.2.2.2.2.2.2.2.1.1=b.2.1.2.2.2.2.2.2.2.2.2.1.1)∧(a.2.2.1.1=b.2.2.1.1∧True∧True∧a.2.2.1.2.2.2.1=b.2.2.1.2.2.2.1∧a.2.2.1.2.2.2.2.1=b.2.2.1.2.2.2.2.1)∧(([]:ca uv Db)=([]:ca uv Db)∧a.2.2.1.2.1=b.2.2.1.2.1)∧(a.2.2.1.2.2.1.1=b.2.2.1.2.2.1.1∧a.2.2.1.2.2.1.2=b.2.2.1.2.2.1.2)∧(a.2.2.2.1.1=b.2.2.2.1.1∧(0:Int)=(0:Int)∧True)∧True∧((0:Int)=(0:Int)∧(0:Int)=(0:Int)∧(0:Int)=(0:Int)∧(0:Int)=(0:Int))∧(a.2.2.2.2.2.2.1.1=b.2.2.2.2.2.2.1.1∧a.2.2.2.2.2.2.1.2=b.2.2.2.2.2.2.1.2)∧(a.2.2.2.2.2.2.2.1.1=b.2.2.2.2.2.2.2.1.1∧a.2.2.2.2.2.2.2.1.2=b.2.2.2.2.2.2.2.1.2)∧P
def aX(a:Sp.T an):Prop:=(((0:Int)=(0:Int)∧(((List.length a.1.2.2.2.2.1.1.2.1)=(List.length a.1.2.2.2.2.1.1.2.1)∧(List.length a.1.2.2.2.2.1.1.2.1)=(List.length a.1.2.2.2.2.1.1.2.1)∧(List.length a.1.2.2.2.2.1.1.2.1)=(List.length a.1.2.2.2.2.1.1.2.1))∧((List.length a.1.2.2.2.2.1.2.1.2.1)=(List.length a.1.2.2.2.2.1.2.1.2.1)∧(List.length a.1.2.2.2.2.1.2.1.2.1)=(List.length a.1.2.2.2.2.1.2.1.2.1)∧(List.length a.1.2.2.2.2.1.2.1.2.1)=(List.length a.1.2.2.2.2.1.2.1.2.1))∧(0:Int)=(0:Int))∧(((List.length a.1.2.2.2.2.2.1.1.2.1)=(List.length a.1.2.2.2.2.2.1.1.2.1)∧(List.length a.1.2.2.2.2.2.1.1.2.1)=(List.length a.1.2.2.2.2.2.1.1.2.1)∧(List.length a.1.2.2.2.2.2.1.1.2.1)=(List.length a.1.2.2.2.2.2.1.1.2.1))∧((List.length a.1.2.2.2.2.2.1.2.1.2.1)=(List.length a.1.2.2.2.2.2.1.2.1.2.1)∧(List.length a.1.2.2.2.2.2.1.2.1.2.1)=(List.length a.1.2.2.2.2.2.1.2.1.2.1)∧(List.length a.1.2.2.2.2.2.1.2.1.2.1)=(List.length a.1.2.2.2.2.2.1.2.1.2.1))∧(0:Int)=(0:Int))∧(List.length a.1.2.2.2.2.2.2.1.2.1)=(List.length a.1.2.2.2.2.2.2.1.2.1)∧(List.length a.1.2.2.2.2.2.2.1.2.1)=(List.length a.1.2.2.2.2.2.2.1.2.1)∧(List.length a.1.2.2.2.2.2.2.1.2.1)=(List.length a.1.2.2.2.2.2.2.1.2.1))∧(false=false∧((List.length a.2.1.2.2.2.2.2.2.1.1)=(List.length a.2.1.2.2.2.2.2.2.1.1)∧(List.length a.2.1.2.2.2.2.2.2.1.1)=(List.length a.2.1.2.2.2.2.2.2.1.1)∧(List.length a.2.1.2.2.2.2.2.2.1.1)=(List.length a.2.1.2.2.2.2.2.2.1.1))∧(List.length a.2.1.2.2.2.2.2.2.2.2.2.1.1)=(List.length a.2.1.2.2.2.2.2.2.2.2.2.1.1)∧(List.length a.2.1.2.2.2.2.2.2.2.2.2.1.1)=(List.length a.2.1.2.2.2.2.2.2.2.2.2.1.1)∧(List.length a.2.1.2.2.2.2.2.2.2.2.2.1.1)=(List.length a.2.1.2.2.2.2.2.2.2.2.2.1.1))∧([]:ca uv Db)=([]:ca uv Db)∧(0:Int)=(0:Int)∧((0:Int)=(0:Int)∧(0:Int)=(0:Int)∧(0:Int)=(0:Int)∧(0:Int)=(0:Int))∧(0:Int)=(0:Int))
def jV(x:(cM×Unit))(y:(Unit)):Prop:=True
def nH(x:(cM×Unit))(y:(Unit)):((Int×Unit)×Unit):=((x.1.2.2.2.2.2.2.2.1,()),())
noncomputable def T9:RC:=qR [true] [jl] [] [(false,[.int .i64])] jV nH
abbrev aS:Sp:= .pt 90 [gp,cH,fb,FH,GJ,FG,.mp [.int .i64] false [.int .u32] false,.mp [.int .i64] false [.int .u32] false,.int .i64,.bool,.int .i64,.cl (.int .i64 (0))]
abbrev bD:Type:=(bU×cB×di×rP×aY×pD×(ca [.int .i64] [.int .u32]×Nat)×(ca [.int .i64] [.int .u32]×Nat)×Int×Bool×Int×Unit×Unit)
abbrev M3:Sp:= .pt 90 [ub,BS,fb,FH,GJ,FG,.mp [.int .i64] false [.int .u32] false,.mp [.int .i64] false [.int .u32] false,.int .i64,.bool,.int .i64,.cl (.int .i64 (0))]
abbrev Fy:Type:=(eN×ni×di×rP×aY×pD×(ca [.int .i64] [.int .u32]×Nat)×(ca [.int .i64] [.int .u32]×Nat)×Int×Bool×Int×Unit×Unit)
def od(a b:Sp.T aS)(P:Prop):Prop:=(True∧True∧True∧True∧True∧True∧True∧True∧a.2.2.2.2.2.2.2.2.1=b.2.2.2.2.2.2.2.2.1∧a.2.2.2.2.2.2.2.2.2.1=b.2.2.2.2.2.2.2.2.2.1∧a.2.2.2.2.2.2.2.2.2.2.1=b.2.2.2.2.2.2.2.2.2.2.1∧(0:Int)=(0:Int))∧(a.1.1=b.1.1∧a.1.2.1=b.1.2.1∧a.1.2.2.1=b.1.2.2.1∧(1:Int)=(1:Int)∧True∧True∧True∧a.1.2.2.2.2.2.2.2.1=b.1.2.2.2.2.2.2.2.1)∧(True∧True∧a.1.2.2.2.2.1.2.2.1=b.1.2.2.2.2.1.2.2.1∧(0:Int)=(0:Int))∧(a.1.2.2.2.2.1.1.1=b.1.2.2.2.2.1.1.1∧(false=false∧(0:Nat)=(0:Nat)∧(0:Nat)=(0:Nat)∧(List.length a.1.2.2.2.2.1.1.2.1)=(List.length b.1.2.2.2.2.1.1.2.1)∧(List.length a.1.2.2.2.2.1.1.2.1)=(List.length b.1.2.2.2.2.1.1.2.1))∧True)∧(false=false∧(0:Nat)=(0:Nat)∧(List.length a.1.2.2.2.2.1.1.2.1)=(List.length b.1.2.2.2.2.1.1.2.1)∧List.take ((List.length b.1.2.2.2.2.1.1.2.1)) a.1.2.2.2.2.1.1.2.1=b.1.2.2.2.2.1.1.2.1)∧(a.1.2.2.2.2.1.2.1.1=b.1.2.2.2.2.1.2.1.1∧(false=false∧(0:Nat)=(0:Nat)∧(0:Nat)=(0:Nat)∧(List.length a.1.2.2.2.2.1.2.1.2.1)=(List.length b.1.2.2.2.2.1.2.1.2.1)∧(List.length a.1.2.2.2.2.1.2.1.2.1)=(List.length b.1.2.2.2.2.1.2.1.2.1))∧True)∧(false=false∧(0:Nat)=(0:Nat)∧(List.length a.1.2.2.2.2.1.2.1.2.1)=(List.length b.1.2.2.2.2.1.2.1.2.1)∧List.take ((List.length b.1.2.2.2.2.1.2.1.2.1)) a.1.2.2.2.2.1.2.1.2.1=b.1.2.2.2.2.1.2.1.2.1)∧(True∧True∧a.1.2.2.2.2.2.1.2.2.1=b.1.2.2.2.2.2.1.2.2.1∧(0:Int)=(0:Int))∧(a.1.2.2.2.2.2.1.1.1=b.1.2.2.2.2.2.1.1.1∧(false=false∧(0:Nat)=(0:Nat)∧(0:Nat)=(0:Nat)∧(List.length a.1.2.2.2.2.2.1.1.2.1)=(List.length b.1.2.2.2.2.2.1.1.2.1)∧(List.length a.1.2.2.2.2.2.1.1.2.1)=(List.length b.1.2.2.2.2.2.1.1.2.1))∧True)∧(false=false∧(0:Nat)=(0:Nat)∧(List.length a.1.2.2.2.2.2.1.1.2.1)=(List.length b.1.2.2.2.2.2.1.1.2.1)∧List.take ((List.length b.1.2.2.2.2.2.1.1.2.1)) a.1.2.2.2.2.2.1.1.2.1=b.1.2.2.2.2.2.1.1.2.1)∧(a.1.2.2.2.2.2.1.2.1.1=b.1.2.2.2.2.2.1.2.1.1∧(false=false∧(0:Nat)=(0:Nat)∧(0:Nat)=(0:Nat)∧(List.length a.1.2.2.2.2.2.1.2.1.2.1)=(List.length b.1.2.2.2.2.2.1.2.1.2.1)∧(List.length a.1.2.2.2.2.2.1.2.1.2.1)=(List.length b.1.2.2.2.2.2.1.2.1.2.1))∧True)∧(false=false∧(0:Nat)=(0:Nat)∧(List.length a.1.2.2.2.2.2.1.2.1.2.1)=(List.length b.1.2.2.2.2.2.1.2.1.2.1)∧List.take ((List.length b.1.2.2.2.2.2.1.2.1.2.1)) a.1.2.2.2.2.2.1.2.1.2.1=b.1.2.2.2.2.2.1.2.1.2.1)∧(a.1.2.2.2.2.2.2.1.1=b.1.2.2.2.2.2.2.1.1∧(false=false∧(0:Nat)=(0:Nat)∧(0:Nat)=(0:Nat)∧(List.length a.1.2.2.2.2.2.2.1.2.1)=(List.length b.1.2.2.2.2.2.2.1.2.1)∧(List.length a.1.2.2.2.2.2.2.1.2.1)=(List.length b.1.2.2.2.2.2.2.1.2.1))∧True)∧(false=false∧(0:Nat)=(0:Nat)∧(List.length a.1.2.2.2.2.2.2.1.2.1)=(List.length b.1.2.2.2.2.2.2.1.2.1)∧List.take ((List.length b.1.2.2.2.2.2.2.1.2.1)) a.1.2.2.2.2.2.2.1.2.1=b.1.2.2.2.2.2.2.1.2.1)∧(a.2.1.1=b.2.1.1∧a.2.1.2.1=b.2.1.2.1∧a.2.1.2.2.1=b.2.1.2.2.1∧false=false∧a.2.1.2.2.2.2.1=b.2.1.2.2.2.2.1∧a.2.1.2.2.2.2.2.1=b.2.1.2.2.2.2.2.1∧True∧a.2.1.2.2.2.2.2.2.2.1=b.2.1.2.2.2.2.2.2.2.1∧a.2.1.2.2.2.2.2.2.2.2.1=b.2.1.2.2.2.2.2.2.2.2.1∧True∧a.2.1.2.2.2.2.2.2.2.2.2.2.1=b.2.1.2.2.2.2.2.2.2.2.2.2.1∧a.2.1.2.2.2.2.2.2.2.2.2.2.2.1=b.2.1.2.2.2.2.2.2.2.2.2.2.2.1∧a.2.1.2.2.2.2.2.2.2.2.2.2.2.2.1=b.2.1.2.2.2.2.2.2.2.2.2.2.2.2.1)∧(((false=false∧(0:Nat)=(0:Nat)∧(0:Nat)=(0:Nat)∧(List.length a.2.1.2.2.2.2.2.2.1.1)=(List.length b.2.1.2.2.2.2.2.2.1.1)∧(List.length a.2.1.2.2.2.2.2.2.1.1)=(List.length b.2.1.2.2.2.2.2.2.1.1))∧True)∧a.2.1.2.2.2.2.2.2.1.2.1=b.2.1.2.2.2.2.2.2.1.2.1∧a.2.1.2.2.2.2.2.2.1.2.2.1=b.2.1.2.2.2.2.2.2.1.2.2.1)∧(false=false∧(0:Nat)=(0:Nat)∧(List.length a.2.1.2.2.2.2.2.2.1.1)=(List.length b.2.1.2.2.2.2.2.2.1.1)∧List.take ((List.length b.2.1.2.2.2.2.2.2.1.1)) a.2.1.2.2.2.2.2.2.1.1=b.2.1.2.2.2.2.2.2.1.1)∧(((false=false∧(0:Nat)=(0:Nat)∧(0:Nat)=(0:Nat)∧(List.length a.2.1.2.2.2.2.2.2.2.2.2.1.1)=(List.length b.2.1.2.2.2.2.2.2.2.2.2.1.1)∧(List.length a.2.1.2.2.2.2.2.2.2.2.2.1.1)=(List.length b.2.1.2.2.2.2.2.2.2.2.2.1.1))∧True)∧a.2.1.2.2.2.2.2.2.2.2.2.1.2.1=b.2.1.2.2.2.2.2.2.2.2.2.1.2.1∧a.2.1.2.2.2.2.2.2.2.2.2.1.2.2.1=b.2.1.2.2.2.2.2.2.2.2.2.1.2.2.1)∧(false=false∧(0:Nat)=(0:Nat)∧(List.length a.2.1.2.2.2.2.2.2.2.2.2.1.1)=(List.length b.2.1.2.2.2.2.2.2.2.2.2.1.1)∧List.take ((List.length b.2.1.2.2.2.2.2.2.2.2.2.1.1)) a.2.1.2.2.2.2.2.2.2.2.2.1.1=b.2.1.2.2.2.2.2.2.2.2.2.1.1)∧(a.2.2.1.1=b.2.2.1.1∧True∧True∧a.2.2.1.2.2.2.1=b.2.2.1.2.2.2.1∧a.2.2.1.2.2.2.2.1=b.2.2.1.2.2.2.2.1)∧(([]:ca uv Db)=([]:ca uv Db)∧a.2.2.1.2.1=b.2.2.1.2.1)∧(a.2.2.1.2.2.1.1=b.2.2.1.2.2.1.1∧a.2.2.1.2.2.1.2=b.2.2.1.2.2.1.2)∧(a.2.2.2.1.1=b.2.2.2.1.1∧(0:Int)=(0:Int)∧True)∧True∧((0:Int)=(0:Int)∧(0:Int)=(0:Int)∧(0:Int)=(0:Int)∧(0:Int)=(0:Int))∧(a.2.2.2.2.2.2.1.1=b.2.2.2.2.2.2.1.1∧a.2.2.2.2.2.2.1.2=b.2.2.2.2.2.2.1.2)∧(a.2.2.2.2.2.2.2.1.1=b.2.2.2.2.2.2.2.1.1∧a.2.2.2.2.2.2.2.1.2=b.2.2.2.2.2.2.2.1.2)∧P
def b7(a:Sp.T aS):Prop:=(((1:Int)=(1:Int)∧(((List.length a.1.2.2.2.2.1.1.2.1)=(List.length a.1.2.2.2.2.1.1.2.1)∧(List.length a.1.2.2.2.2.1.1.2.1)=(List.length a.1.2.2.2.2.1.1.2.1)∧(List.length a.1.2.2.2.2.1.1.2.1)=(List.length a.1.2.2.2.2.1.1.2.1))∧((List.length a.1.2.2.2.2.1.2.1.2.1)=(List.length a.1.2.2.2.2.1.2.1.2.1)∧(List.length a.1.2.2.2.2.1.2.1.2.1)=(List.length a.1.2.2.2.2.1.2.1.2.1)∧(List.length a.1.2.2.2.2.1.2.1.2.1)=(List.length a.1.2.2.2.2.1.2.1.2.1))∧(0:Int)=(0:Int))∧(((List.length a.1.2.2.2.2.2.1.1.2.1)=(List.length a.1.2.2.2.2.2.1.1.2.1)∧(List.length a.1.2.2.2.2.2.1.1.2.1)=(List.length a.1.2.2.2.2.2.1.1.2.1)∧(List.length a.1.2.2.2.2.2.1.1.2.1)=(List.length a.1.2.2.2.2.2.1.1.2.1))∧((List.length a.1.2.2.2.2.2.1.2.1.2.1)=(List.length a.1.2.2.2.2.2.1.2.1.2.1)∧(List.length a.1.2.2.2.2.2.1.2.1.2.1)=(List.length a.1.2.2.2.2.2.1.2.1.2.1)∧(List.length a.1.2.2.2.2.2.1.2.1.2.1)=(List.length a.1.2.2.2.2.2.1.2.1.2.1))∧(0:Int)=(0:Int))∧(List.length a.1.2.2.2.2.2.2.1.2.1)=(List.length a.1.2.2.2.2.2.2.1.2.1)∧(List.length a.1.2.2.2.2.2.2.1.2.1)=(List.length a.1.2.2.2.2.2.2.1.2.1)∧(List.length a.1.2.2.2.2.2.2.1.2.1)=(List.length a.1.2.2.2.2.2.2.1.2.1))∧(false=false∧((List.length a.2.1.2.2.2.2.2.2.1.1)=(List.length a.2.1.2.2.2.2.2.2.1.1)∧(List.length a.2.1.2.2.2.2.2.2.1.1)=(List.length a.2.1.2.2.2.2.2.2.1.1)∧(List.length a.2.1.2.2.2.2.2.2.1.1)=(List.length a.2.1.2.2.2.2.2.2.1.1))∧(List.length a.2.1.2.2.2.2.2.2.2.2.2.1.1)=(List.length a.2.1.2.2.2.2.2.2.2.2.2.1.1)∧(List.length a.2.1.2.2.2.2.2.2.2.2.2.1.1)=(List.length a.2.1.2.2.2.2.2.2.2.2.2.1.1)∧(List.length a.2.1.2.2.2.2.2.2.2.2.2.1.1)=(List.length a.2.1.2.2.2.2.2.2.2.2.2.1.1))∧([]:ca uv Db)=([]:ca uv Db)∧(0:Int)=(0:Int)∧((0:Int)=(0:Int)∧(0:Int)=(0:Int)∧(0:Int)=(0:Int)∧(0:Int)=(0:Int))∧(0:Int)=(0:Int))
def jJ(x:(eN×Unit))(y:(Unit)):Prop:=True
def nF(x:(eN×Unit))(y:(Unit)):((Int×Unit)×Unit):=((x.1.2.2.2.2.2.2.2.1,()),())
noncomputable def UL:RC:=qR [true] [ub] [] [(false,[.int .i64])] jJ nF
theorem HC:aB Tryz.prog 24 T9:=by
 refine aD (cx Mx [84] dS iQ) Tryz.func24 (by kernel_rfl) (by kernel_rfl) rfl rfl rfl fun (x:(cM×Unit)) h (y:(Unit)) k hp=>⟨bK,400,af (q:=HV GS ((x.1,())=x) ((((),(),(),(),tf h.1,C3 h.1),())=h) (z9 x).2.2.2.1 (nH x y)) (by kernel_rfl) ?_⟩
 delta Q7 Q6 oO lG Qk Qj Qg Ye H4 VU GS C3 tf HV z9;obtain ⟨⟨(a0:Int),(k0:Int),(e0:Int),⟨⟩,⟨⟨(l0:Int),m0,⟨⟩⟩,⟨(p0:Int),q0,⟨⟩⟩,(o0:Int),⟨⟩,⟨⟩⟩,⟨⟨(s0:Int),t0,⟨⟩⟩,⟨(w0:Int),x0,⟨⟩⟩,(v0:Int),⟨⟩,⟨⟩⟩,⟨(b0:Int),c0,⟨⟩⟩,(z0:Int),⟨⟩⟩,⟨⟩⟩:=x;obtain ⟨⟨⟨⟩,⟨⟩,⟨⟩,⟨⟩,⟨⟨⟨⟩,n0,⟨⟩⟩,⟨⟨⟩,r0,⟨⟩⟩,⟨⟩,⟨⟩,⟨⟩⟩,⟨⟨⟨⟩,u0,⟨⟩⟩,⟨⟨⟩,y0,⟨⟩⟩,⟨⟩,⟨⟩,⟨⟩⟩,⟨⟨⟩,d0,⟨⟩⟩,⟨⟩,⟨⟩⟩,⟨⟩⟩:=h;obtain ⟨⟨⟩⟩:=y;obtain ⟨⟨⟩⟩:=k
 try dsimp only [nH]
 simp [nH]
theorem UD:aB Tryz.prog 24 UL:=by
 refine aD (cx Mx [84] dR oQ) Tryz.func24 (by kernel_rfl) (by kernel_rfl) rfl rfl rfl fun (x:(eN×Unit)) h (y:(Unit)) k hp=>⟨bK,400,af (q:=HV ji ((x.1,())=x) ((((),(),(),(),En h.1,gx h.1),())=h) (z9 x).2.2.2.1 (nF x y)) (by kernel_rfl) ?_⟩
 delta Q7 Q6 oO lG Qk Qj Qg Q5e Ye H4 VU ji gx En HV z9;obtain ⟨⟨(a0:Int),(k0:Int),(e0:Int),⟨⟩,⟨⟨(l0:Int),m0,⟨⟩⟩,⟨(p0:Int),q0,⟨⟩⟩,(o0:Int),⟨⟩,⟨⟩⟩,⟨⟨(s0:Int),t0,⟨⟩⟩,⟨(w0:Int),x0,⟨⟩⟩,(v0:Int),⟨⟩,⟨⟩⟩,⟨(b0:Int),c0,⟨⟩⟩,(z0:Int),⟨⟩⟩,⟨⟩⟩:=x;obtain ⟨⟨⟨⟩,⟨⟩,⟨⟩,⟨⟩,⟨⟨⟨⟩,n0,⟨⟩⟩,⟨⟨⟩,r0,⟨⟩⟩,⟨⟩,⟨⟩,⟨⟩⟩,⟨⟨⟨⟩,u0,⟨⟩⟩,⟨⟨⟩,y0,⟨⟩⟩,⟨⟩,⟨⟩,⟨⟩⟩,⟨⟨⟩,d0,⟨⟩⟩,⟨⟩,⟨⟩⟩,⟨⟩⟩:=h;obtain ⟨⟨⟩⟩:=y;obtain ⟨⟨⟩⟩:=k
 try dsimp only [nF]
 simp [nF]
noncomputable def Dp:=dS.rd 24 HC
def ry(x:(cM×Unit))(y:(Unit)):Prop:=True
def lK(x:(cM×Unit))(y:(Unit)):((Int×Unit)×Unit):=((x.1.2.2.2.2.2.1.2.2.1,()),())
noncomputable def xl:RC:=qR [true] [jl] [] [(false,[.int .i64])] ry lK
noncomputable def EG:=dR.rd 24 UD
def rA(x:(eN×Unit))(y:(Unit)):Prop:=True
def lS(x:(eN×Unit))(y:(Unit)):((Int×Unit)×Unit):=((x.1.2.2.2.2.1.2.2.1,()),())
noncomputable def xD:RC:=qR [true] [ub] [] [(false,[.int .i64])] rA lS
theorem xg:aB Tryz.prog 89 xl∧aB Tryz.prog 89 xD:=by
 refine ⟨?a,?b⟩
 case' a=>
  refine aD (cx Mx [84] Dp iQ) Tryz.func89 (by kernel_rfl) (by kernel_rfl) rfl rfl rfl fun (x:(cM×Unit)) h (y:(Unit)) k hp=>⟨bK,400,af (q:=ya lG∧HV GS ((x.1,())=x) ((((),(),(),(),tf h.1,C3 h.1),())=h) (z9 x).2.1.2.2.1 (lK x y)) (by kernel_rfl) ?_⟩
  delta Q7 Q6 oO lG ya Qk Qj Qg Ye H4 VU GS C3 tf HV z9;obtain ⟨⟨(a0:Int),(k0:Int),(e0:Int),⟨⟩,⟨⟨(l0:Int),m0,⟨⟩⟩,⟨(p0:Int),q0,⟨⟩⟩,(o0:Int),⟨⟩,⟨⟩⟩,⟨⟨(s0:Int),t0,⟨⟩⟩,⟨(w0:Int),x0,⟨⟩⟩,(v0:Int),⟨⟩,⟨⟩⟩,⟨(b0:Int),c0,⟨⟩⟩,(z0:Int),⟨⟩⟩,⟨⟩⟩:=x;obtain ⟨⟨⟨⟩,⟨⟩,⟨⟩,⟨⟩,⟨⟨⟨⟩,n0,⟨⟩⟩,⟨⟨⟩,r0,⟨⟩⟩,⟨⟩,⟨⟩,⟨⟩⟩,⟨⟨⟨⟩,u0,⟨⟩⟩,⟨⟨⟩,y0,⟨⟩⟩,⟨⟩,⟨⟩,⟨⟩⟩,⟨⟨⟩,d0,⟨⟩⟩,⟨⟩,⟨⟩⟩,⟨⟩⟩:=h;obtain ⟨⟨⟩⟩:=y;obtain ⟨⟨⟩⟩:=k
  try dsimp only [lK]
 case' b=>
  refine aD (cx Mx [84] EG oQ) Tryz.func89 (by kernel_rfl) (by kernel_rfl) rfl rfl rfl fun (x:(eN×Unit)) h (y:(Unit)) k hp=>⟨bK,400,af (q:=ya lG∧HV ji ((x.1,())=x) ((((),(),(),(),En h.1,gx h.1),())=h) (z9 x).1.2.2.1 (lS x y)) (by kernel_rfl) ?_⟩
  delta Q7 Q6 oO lG ya Qk Qj Qg Q5e Ye H4 VU ji gx En HV z9;obtain ⟨⟨(a0:Int),(k0:Int),(e0:Int),⟨⟩,⟨⟨(l0:Int),m0,⟨⟩⟩,⟨(p0:Int),q0,⟨⟩⟩,(o0:Int),⟨⟩,⟨⟩⟩,⟨⟨(s0:Int),t0,⟨⟩⟩,⟨(w0:Int),x0,⟨⟩⟩,(v0:Int),⟨⟩,⟨⟩⟩,⟨(b0:Int),c0,⟨⟩⟩,(z0:Int),⟨⟩⟩,⟨⟩⟩:=x;obtain ⟨⟨⟨⟩,⟨⟩,⟨⟩,⟨⟩,⟨⟨⟨⟩,n0,⟨⟩⟩,⟨⟨⟩,r0,⟨⟩⟩,⟨⟩,⟨⟩,⟨⟩⟩,⟨⟨⟨⟩,u0,⟨⟩⟩,⟨⟨⟩,y0,⟨⟩⟩,⟨⟩,⟨⟩,⟨⟩⟩,⟨⟨⟩,d0,⟨⟩⟩,⟨⟩,⟨⟩⟩,⟨⟩⟩:=h;obtain ⟨⟨⟩⟩:=y;obtain ⟨⟨⟩⟩:=k
  try dsimp only [lS]
 all_goals
  simp only [cl]
theorem Iv:aB Tryz.prog 89 xl:=xg.1
theorem Hf:aB Tryz.prog 89 xD:=xg.2
noncomputable def tY:=Dp.rd 89 Iv
def l7(x:(qA×Unit))(y:(Unit)):Prop:=0≤x.1.1.2.2.2.2.2.2.2.1∧x.1.1.2.2.2.2.2.2.2.1≤1000000∧0≤x.1.1.2.2.2.2.2.1.2.2.1∧x.1.1.2.2.2.2.2.1.2.2.1≤1000000
def oS(x:(qA×Unit))(y:(Unit)):((Int×Unit)×Unit):=((x.1.1.2.2.2.2.2.2.2.1-x.1.1.2.2.2.2.2.1.2.2.1,()),())
noncomputable def DN:RC:=qR [true] [za] [] [(false,[.int .i64])] l7 oS
abbrev a1M:Type:=Unit×Unit×Unit×Unit×Unit×Unit×((Sp.im [Kd.int IntKind.u8]).H×Unit×Unit×Unit)×Unit×Unit×((Sp.im dk).H×Unit×Unit×Unit)×Unit×Unit×Unit×Unit
def Qcy(a b c:Prop):Prop:=QbG a (([]:List (Row uv×Row Db×Nat))= []) b c
def Qcv(a b:Prop):Prop:=a∧Qcy b (Qn lG lG lG lG) lG
def xz:Unit×Unit×Unit×Unit:=((),Qj)
def Mz:Unit×Unit×Unit×Unit×Unit:=((),xz)
def LV:(Unit×Unit×Unit×Unit×Unit×Unit)×(Unit×Unit×Unit×Unit)×(Unit×Unit)×(Unit×Unit×Unit×Unit×Unit)×Unit×Unit×Unit×Unit×Unit×Unit×Unit:=(((),Mz),xz,Qk,Mz,(),(),Mz)
def Ro(a:BS.H):a1M:=((),(),(),(),(),(),(a.2.2.2.2.2.2.1.1,Qj),(),(),(a.2.2.2.2.2.2.2.2.2.1.1,Qj),xz)
def PD(a:za.H):a1M:=Ro a.2.1
def Qcu(a:qA×Unit):jX×BK×Int×Unit:=a.1.1.2.2.2.2.2
noncomputable def tv:=EG.rd 89 Hf
def lk(x:(Fy×Unit))(y:(Unit)):Prop:=0≤x.1.1.2.2.2.2.2.2.2.1∧x.1.1.2.2.2.2.2.2.2.1≤1000000∧0≤x.1.1.2.2.2.2.1.2.2.1∧x.1.1.2.2.2.2.1.2.2.1≤1000000
def pS(x:(Fy×Unit))(y:(Unit)):((Int×Unit)×Unit):=((x.1.1.2.2.2.2.2.2.2.1-x.1.1.2.2.2.2.1.2.2.1,()),())
noncomputable def F1:RC:=qR [true] [M3] [] [(false,[.int .i64])] lk pS
theorem EV:aB Tryz.prog 41 DN∧aB Tryz.prog 41 F1:=by
 refine ⟨?a,?b⟩
 case' a=>
  refine aD (cx Mx [] tY iQ) Tryz.func41 (by kernel_rfl) (by kernel_rfl) rfl rfl rfl fun (x:(qA×Unit)) h (y:(Unit)) k hp=>⟨bK,400,af (q:=Q60 GS (jV (x.1.1,()) ()) GS (ry (x.1.1,()) ()) (QS (Qcu x).2.2.1 (Qcu x).1.2.2.1) (HV (Qcv GS QJ) ((x.1,())=x) (((((),(),(),(),tf h.1.1,C3 h.1.1),PD h.1,LV),())=h) ((Qcu x).2.2.1-(Qcu x).1.2.2.1) (oS x y))) (by kernel_rfl) ?_⟩
  delta Q7 Q6 oO lG Qn QbG Qk QJ Qj Qcy Qcv Qi xz Qg Mz Ye Q5d H4 VU QS Q60 GS C3 tf HV LV Ro PD Qcu;obtain ⟨⟨⟨(a0:Int),(m0:Int),(e0:Int),⟨⟩,⟨⟨(n0:Int),o0,⟨⟩⟩,⟨(r0:Int),s0,⟨⟩⟩,(q0:Int),⟨⟩,⟨⟩⟩,⟨⟨(u0:Int),v0,⟨⟩⟩,⟨(x0:Int),y0,⟨⟩⟩,(k0:Int),⟨⟩,⟨⟩⟩,⟨(b0:Int),c0,⟨⟩⟩,(l0:Int),⟨⟩⟩,⟨(s1:Int),(b1:Int),(d1:Int),⟨⟩,(e1:Int),(q1:Int),⟨y1,(x1:Int),(a1:Int),⟨⟩⟩,(n1:Int),(r1:Int),⟨u1,(t1:Int),(w1:Int),⟨⟩⟩,(p1:Int),(o1:Int),(c1:Int),⟨⟩⟩,⟨(k1:Int),j0,⟨l1,m1⟩,(h0:Int),i0,⟨⟩⟩,⟨(f1:Int),⟨⟩,⟨⟩,⟨⟩⟩,⟨⟨⟩,⟨⟩⟩,⟨⟨⟩,⟨⟩,⟨⟩,⟨⟩,⟨⟩⟩,⟨g1,i1⟩,⟨k2,l2⟩,(f0:Int),g0,(j1:Int),⟨⟩,⟨⟩⟩,⟨⟩⟩:=x;obtain ⟨⟨⟨⟨⟩,⟨⟩,⟨⟩,⟨⟩,⟨⟨⟨⟩,p0,⟨⟩⟩,⟨⟨⟩,t0,⟨⟩⟩,⟨⟩,⟨⟩,⟨⟩⟩,⟨⟨⟨⟩,w0,⟨⟩⟩,⟨⟨⟩,z0,⟨⟩⟩,⟨⟩,⟨⟩,⟨⟩⟩,⟨⟨⟩,d0,⟨⟩⟩,⟨⟩,⟨⟩⟩,⟨⟨⟩,⟨⟩,⟨⟩,⟨⟩,⟨⟩,⟨⟩,⟨z1,⟨⟩,⟨⟩,⟨⟩⟩,⟨⟩,⟨⟩,⟨v1,⟨⟩,⟨⟩,⟨⟩⟩,⟨⟩,⟨⟩,⟨⟩,⟨⟩⟩,⟨⟨⟩,⟨⟩,⟨⟩,⟨⟩,⟨⟩,⟨⟩⟩,⟨⟨⟩,⟨⟩,⟨⟩,⟨⟩⟩,⟨⟨⟩,⟨⟩⟩,⟨⟨⟩,⟨⟩,⟨⟩,⟨⟩,⟨⟩⟩,⟨⟩,⟨⟩,⟨⟩,⟨⟩,⟨⟩,⟨⟩,⟨⟩⟩,⟨⟩⟩:=h;obtain ⟨⟨⟩⟩:=y;obtain ⟨⟨⟩⟩:=k
  try dsimp only [oS]
 case' b=>
  refine aD (cx Mx [] tv oQ) Tryz.func41 (by kernel_rfl) (by kernel_rfl) rfl rfl rfl fun (x:(Fy×Unit)) h (y:(Unit)) k hp=>⟨bK,400,af (q:=Q60 ji (jJ (x.1.1,()) ()) ji (rA (x.1.1,()) ()) (QS (Qcu x).2.2.1 x.1.1.2.2.2.2.1.2.2.1) (HV (Qcv ji QJ) ((x.1,())=x) (((((),(),(),(),En h.1.1,gx h.1.1),PD h.1,LV),())=h) ((Qcu x).2.2.1-x.1.1.2.2.2.2.1.2.2.1) (pS x y))) (by kernel_rfl) ?_⟩
  delta Q7 Q6 oO lG Qn QbG Qk QJ Qj Qcy Qcv Qi xz Qg Mz Q5e Ye Q5d H4 VU QS Q60 ji gx En HV LV Ro PD Qcu;obtain ⟨⟨⟨(a0:Int),(m0:Int),(e0:Int),⟨⟩,⟨⟨(n0:Int),o0,⟨⟩⟩,⟨(r0:Int),s0,⟨⟩⟩,(k0:Int),⟨⟩,⟨⟩⟩,⟨⟨(u0:Int),v0,⟨⟩⟩,⟨(x0:Int),y0,⟨⟩⟩,(q0:Int),⟨⟩,⟨⟩⟩,⟨(b0:Int),c0,⟨⟩⟩,(l0:Int),⟨⟩⟩,⟨(s1:Int),(b1:Int),(d1:Int),⟨⟩,(e1:Int),(q1:Int),⟨y1,(x1:Int),(a1:Int),⟨⟩⟩,(n1:Int),(r1:Int),⟨u1,(t1:Int),(w1:Int),⟨⟩⟩,(p1:Int),(o1:Int),(c1:Int),⟨⟩⟩,⟨(k1:Int),j0,⟨l1,m1⟩,(h0:Int),i0,⟨⟩⟩,⟨(f1:Int),⟨⟩,⟨⟩,⟨⟩⟩,⟨⟨⟩,⟨⟩⟩,⟨⟨⟩,⟨⟩,⟨⟩,⟨⟩,⟨⟩⟩,⟨g1,i1⟩,⟨k2,l2⟩,(f0:Int),g0,(j1:Int),⟨⟩,⟨⟩⟩,⟨⟩⟩:=x;obtain ⟨⟨⟨⟨⟩,⟨⟩,⟨⟩,⟨⟩,⟨⟨⟨⟩,p0,⟨⟩⟩,⟨⟨⟩,t0,⟨⟩⟩,⟨⟩,⟨⟩,⟨⟩⟩,⟨⟨⟨⟩,w0,⟨⟩⟩,⟨⟨⟩,z0,⟨⟩⟩,⟨⟩,⟨⟩,⟨⟩⟩,⟨⟨⟩,d0,⟨⟩⟩,⟨⟩,⟨⟩⟩,⟨⟨⟩,⟨⟩,⟨⟩,⟨⟩,⟨⟩,⟨⟩,⟨z1,⟨⟩,⟨⟩,⟨⟩⟩,⟨⟩,⟨⟩,⟨v1,⟨⟩,⟨⟩,⟨⟩⟩,⟨⟩,⟨⟩,⟨⟩,⟨⟩⟩,⟨⟨⟩,⟨⟩,⟨⟩,⟨⟩,⟨⟩,⟨⟩⟩,⟨⟨⟩,⟨⟩,⟨⟩,⟨⟩⟩,⟨⟨⟩,⟨⟩⟩,⟨⟨⟩,⟨⟩,⟨⟩,⟨⟩,⟨⟩⟩,⟨⟩,⟨⟩,⟨⟩,⟨⟩,⟨⟩,⟨⟩,⟨⟩⟩,⟨⟩⟩:=h;obtain ⟨⟨⟩⟩:=y;obtain ⟨⟨⟩⟩:=k
  try dsimp only [pS]
 all_goals
  obtain ⟨h1,h2,h3,h4⟩:=(show 0≤l0∧l0≤1000000∧0≤k0∧k0≤1000000 from hp);simp only [cl];exact ⟨trivial,trivial,by simp only [aL,aT,aU];omega⟩
theorem PZ:aB Tryz.prog 41 DN:=EV.1
theorem OX:aB Tryz.prog 41 F1:=EV.2
noncomputable def zi:=tY.rd 41 PZ
def lj(x:(ni×Unit))(y:(Unit)):Prop:=True
def l8(x:(ni×Unit))(y:(Unit)):((Int×Unit)×Unit):=((x.1.2.2.1,()),())
noncomputable def OA:RC:=qR [true] [BS] [] [(false,[.int .i64])] lj l8
theorem EL:aB Tryz.prog 73 OA:=by
 refine aD (cx Mx [] zi iQ) Tryz.func73 (by kernel_rfl) (by kernel_rfl) rfl rfl rfl fun (x:(ni×Unit)) h (y:(Unit)) k hp=>⟨bK,400,af (q:=HV QJ ((x.1,())=x) ((Ro h.1,())=h) x.1.2.2.1 (l8 x y)) (by kernel_rfl) ?_⟩
 delta Q7 Q6 Qk QJ Qj xz Qg HV Ro;obtain ⟨⟨(p0:Int),(y0:Int),(a0:Int),⟨⟩,(b0:Int),(n0:Int),⟨v0,(u0:Int),(x0:Int),⟨⟩⟩,(k0:Int),(o0:Int),⟨r0,(q0:Int),(t0:Int),⟨⟩⟩,(m0:Int),(l0:Int),(z0:Int),⟨⟩⟩,⟨⟩⟩:=x;obtain ⟨⟨⟨⟩,⟨⟩,⟨⟩,⟨⟩,⟨⟩,⟨⟩,⟨w0,⟨⟩,⟨⟩,⟨⟩⟩,⟨⟩,⟨⟩,⟨s0,⟨⟩,⟨⟩,⟨⟩⟩,⟨⟩,⟨⟩,⟨⟩,⟨⟩⟩,⟨⟩⟩:=h;obtain ⟨⟨⟩⟩:=y;obtain ⟨⟨⟩⟩:=k
 try dsimp only [l8]
 simp [l8]
noncomputable def zo:=zi.rd 73 EL
def p8(x:(ni×Unit))(y:(Unit)):Prop:=True
def kX(x:(ni×Unit))(y:(Unit)):((Int×Unit)×Unit):=((x.1.2.2.2.2.1,()),())
noncomputable def Ox:RC:=qR [true] [BS] [] [(false,[.int .i64])] p8 kX
theorem EY:aB Tryz.prog 135 Ox:=by
 refine aD (cx Mx [] zo iQ) Tryz.func135 (by kernel_rfl) (by kernel_rfl) rfl rfl rfl fun (x:(ni×Unit)) h (y:(Unit)) k hp=>⟨bK,400,af (q:=HV QJ ((x.1,())=x) ((Ro h.1,())=h) x.1.2.2.2.2.1 (kX x y)) (by kernel_rfl) ?_⟩
 delta Q7 Q6 Qk QJ Qj xz Qg HV Ro;obtain ⟨⟨(p0:Int),(y0:Int),(a0:Int),⟨⟩,(b0:Int),(n0:Int),⟨v0,(u0:Int),(x0:Int),⟨⟩⟩,(k0:Int),(o0:Int),⟨r0,(q0:Int),(t0:Int),⟨⟩⟩,(m0:Int),(l0:Int),(z0:Int),⟨⟩⟩,⟨⟩⟩:=x;obtain ⟨⟨⟨⟩,⟨⟩,⟨⟩,⟨⟩,⟨⟩,⟨⟩,⟨w0,⟨⟩,⟨⟩,⟨⟩⟩,⟨⟩,⟨⟩,⟨s0,⟨⟩,⟨⟩,⟨⟩⟩,⟨⟩,⟨⟩,⟨⟩,⟨⟩⟩,⟨⟩⟩:=h;obtain ⟨⟨⟩⟩:=y;obtain ⟨⟨⟩⟩:=k
 try dsimp only [kX]
 simp [kX]
noncomputable def B9:=zo.rd 135 EY
def Jp(x:(di×Unit))(y:(Unit)):Prop:=True
def uh(x:(di×Unit))(y:(Unit)):((Int×Unit)×Unit):=((x.1.2.2.2.1,()),())
noncomputable def a1Q:RC:=qR [true] [fb] [] [(false,[.int .i64])] Jp uh
theorem TY:aB Tryz.prog 11 a1Q:=by
 refine aD (cx Mx [] B9 iQ) Tryz.func11 (by kernel_rfl) (by kernel_rfl) rfl rfl rfl fun (x:(di×Unit)) h (y:(Unit)) k hp=>⟨bK,400,af (q:=HV (([]:List (Row uv×Row Db×Nat))= []) ((x.1,())=x) ((((),Mz),())=h) x.1.2.2.2.1 (uh x y)) (by kernel_rfl) ?_⟩
 delta Q7 Q6 Qk Qj xz Qg Mz HV;obtain ⟨⟨(n0:Int),m0,⟨o0,p0⟩,(k0:Int),l0,⟨⟩⟩,⟨⟩⟩:=x;obtain ⟨⟨⟨⟩,⟨⟩,⟨⟩,⟨⟩,⟨⟩,⟨⟩⟩,⟨⟩⟩:=h;obtain ⟨⟨⟩⟩:=y;obtain ⟨⟨⟩⟩:=k
 try dsimp only [uh]
 simp [uh]
noncomputable def jt:=B9.rd 11 TY
noncomputable def u7:=iQ.add 214 Lx
def Ez(x:(bg×Unit))(y:((Int×Unit)×Unit)):Prop:=gT x.1∧cF x.1≤y.1.1∧y.1.1≤aJ x.1∧0≤x.1.1∧x.1.1≤4294967295
def sj(x:(bg×Unit))(y:((Int×Unit)×Unit))(x':(bg×Unit))(z:((Int×Unit)×aY×Unit)):Prop:=x'.1=x.1∧z.1.1=iN (n8 y.1.1 x.1.1 (600-y.1.1))
noncomputable def O9:MC:=qC [true,false] [aR] [(false,[.int .i64])] [(false,[.int .u32]),(false,[.cl (.bool true)])] Ez sj
abbrev a1H:Type:=eZ [(false,[Sp.int IntKind.u32]),(false,[Sp.cl (Lc.int IntKind.i64 (0:Int))])]
abbrev a1z:Type:=aZ [(false,[Sp.int IntKind.u32]),(false,[Sp.cl (Lc.int IntKind.i64 (0:Int))])]
def QcC(a b:cO)(c:e9):Prop:=cu (bH a) (bH b) (Q4o c=Q4o c) (Q4o c) (Q4o c) (Q4o c=Q4o c)
noncomputable def Ll:=tv.rd 41 OX
noncomputable def wF:=Ll.rd 73 EL
noncomputable def wB:=wF.rd 135 EY
noncomputable def cX:=wB.rd 11 TY
noncomputable def rz:=oQ.add 214 Lx
def EC(x:(bU×Unit))(y:((Int×Unit)×Unit)):Prop:=gT x.1∧cF x.1≤y.1.1∧y.1.1≤aJ x.1∧0≤x.1.1∧x.1.1≤4294967295
def sa(x:(bU×Unit))(y:((Int×Unit)×Unit))(x':(bU×Unit))(z:((Int×Unit)×aY×Unit)):Prop:=x'.1=x.1∧z.1.1=iN (n8 y.1.1 x.1.1 (600-y.1.1))
noncomputable def Nv:MC:=qC [true,false] [gp] [(false,[.int .i64])] [(false,[.int .u32]),(false,[.cl (.bool true)])] EC sa
def Gg(a:Prop):Prop:=QbG lG ((-2097152:Int)=(-2097152:Int)) lG (Q2B lG lG (3:Int) (3:Int) lG (WC lG ((2097152:Int)=(2097152:Int)) (WC lG ((32768:Int)=(32768:Int)) (WC ((3:Int)=(3:Int)) lG a))))
theorem NS:ab Tryz.prog 146 O9∧ab Tryz.prog 146 Nv:=by
 refine ⟨?a,?b⟩
 case' a=>
  refine ah (cx Mx [99,84,24,89,52,128] jt u7) Tryz.func146 (by kernel_rfl) (by kernel_rfl) fun (x:(bg×Unit)) h (y:((Int×Unit)×Unit)) k hf hg hp=>⟨bK,400,af (q:=Qbr x y.1.1 (∃ (va:Int),∃ (vb:Int),∃ (vc:Int),xU (Qbs x) y.1.1=jc va vb vc) (∀ (va:e9) (vb:lR) (vc:sV) (vd:CH),Qbt (Q7J (Q6r (Qbw (Q6r (K8 (Q7J (K8 (Q7J (Q6r mJ))))))))) va x y.1.1 vc vc.1.2.2.2.1 (Q14 (Qcs (Q7 lG E9 GZ)) (Ar () ((vc.1.1,vc.1.2.1,(),vc.1.2.2.2.1,(),(),(),(),(),(),(),(),(),(),(),(),(),(),(),(),(),(),(),(),(),(),(),(),(),(),(),(),(),(),(),(),(),(),(),(),(),(),(),(),(),(),(),(),(),(),(),(),(),Kc),())) (∀ (ve:cI) (vf:ck) (vg:a1z) (vi:a1H),RE (jA () ((vc.1.1,vc.1.2.1,(),vc.1.2.2.2.1,(),(),(),(),(),(),(),(),(),(),(),(),(),(),(),(),(),(),(),(),(),(),(),(),(),(),(),(),(),(),(),(),(),(),(),(),(),(),(),(),(),(),(),(),(),(),(),(),(),Kc),()) ve vg) (Qz lG (QcC (Hb x) (Kh x) va) Q44 (sj x y (Qb9 x (Hb x,Kh x,va.1,Qba x,())) ((vg.1.1,()),mB))))))) (by kernel_rfl) ?_⟩
  delta Q7 Q6 oO lG QC Qn Yy Q6r QbG WC WI cR Qs ya Gf Qk mJ cu Q4s JY Qb3 Q4o Wo uI mB Qbw CP QF Qb1 Q9l QbM GZ Qt Qb2 Q10 K8 Kh Hb Qba QcC RE Qz kS Q7J Wa Q14 Kc Qb9 Qbs Qbt Qcs Q44 Qbr E9 bH;obtain ⟨⟨(l0:Int),(m0:Int),(p0:Int),⟨⟩,⟨⟨(k0:Int),q0,⟨⟩⟩,⟨(s0:Int),t0,⟨⟩⟩,(r0:Int),⟨⟩,⟨⟩⟩,⟨⟨(n0:Int),u0,⟨⟩⟩,⟨(w0:Int),x0,⟨⟩⟩,(v0:Int),⟨⟩,⟨⟩⟩,⟨(y0:Int),z0,⟨⟩⟩,(o0:Int),⟨⟩⟩,⟨⟩⟩:=x;obtain ⟨⟨⟨⟩,⟨⟩,⟨⟩,⟨⟩,⟨⟨⟨⟩,⟨⟩,⟨⟩⟩,⟨⟨⟩,⟨⟩,⟨⟩⟩,⟨⟩,⟨⟩,⟨⟩⟩,⟨⟨⟨⟩,⟨⟩,⟨⟩⟩,⟨⟨⟩,⟨⟩,⟨⟩⟩,⟨⟩,⟨⟩,⟨⟩⟩,⟨⟨⟩,⟨⟩,⟨⟩⟩,⟨⟩,⟨⟩⟩,⟨⟩⟩:=h;obtain ⟨⟨(fr:Int),⟨⟩⟩,⟨⟩⟩:=y;obtain ⟨⟨⟨⟩,⟨⟩⟩,⟨⟩⟩:=k
  try dsimp only
 case' b=>
  refine ah (cx Mx [99,84,24,89,52,128] cX rz) Tryz.func146 (by kernel_rfl) (by kernel_rfl) fun (x:(bU×Unit)) h (y:((Int×Unit)×Unit)) k hf hg hp=>⟨bK,400,af (q:=Qbr x y.1.1 (∃ (va:Int),∃ (vb:Int),∃ (vc:Int),xU (Qbs x) y.1.1=jc va vb vc) (∀ (va:e9) (vb:lR) (vc:sV) (vd:CH),Qbt (Qbv (Qbv (Qbw Q6q))) va x y.1.1 vc vc.1.2.2.2.1 (Q14 (Gg (Gf (Wo (WI (Gf lG))))) (Ar () ((vc.1.1,vc.1.2.1,(),vc.1.2.2.2.1,(),(),(),(),(),(),(),(),(),(),(),(),(),(),(),(),(),(),(),(),(),(),(),(),(),(),(),(),(),(),(),(),(),(),(),(),(),(),(),(),(),(),(),(),(),(),(),(),(),Kc),())) (∀ (ve:cI) (vf:ck) (vg:a1z) (vi:a1H),RE (jA () ((vc.1.1,vc.1.2.1,(),vc.1.2.2.2.1,(),(),(),(),(),(),(),(),(),(),(),(),(),(),(),(),(),(),(),(),(),(),(),(),(),(),(),(),(),(),(),(),(),(),(),(),(),(),(),(),(),(),(),(),(),(),(),(),(),Kc),()) ve vg) (Qz Q5e (QcC (Hb x) (Kh x) va) Q44 (sa x y (Qb9 x (Hb x,Kh x,va.1,Qba x,())) ((vg.1.1,()),mB))))))) (by kernel_rfl) ?_⟩
  delta Q7 Q6 oO lG QC Qn Yy Q6r QbG WC WI cR Qs ya Gf Qk mJ cu Q4s Q6q JY Qb3 Q4o Wo uI mB Q2B Qbw CP QF Qb1 Q9l Q5e Qt Qb2 K8 Kh Hb Qba QcC RE Qz kS Qbv Wa Q14 Kc Gg Qb9 Qbs Qbt Q44 Qbr bH;obtain ⟨⟨(l0:Int),(m0:Int),(p0:Int),⟨⟩,⟨⟨(k0:Int),q0,⟨⟩⟩,⟨(s0:Int),t0,⟨⟩⟩,(r0:Int),⟨⟩,⟨⟩⟩,⟨⟨(n0:Int),u0,⟨⟩⟩,⟨(w0:Int),x0,⟨⟩⟩,(v0:Int),⟨⟩,⟨⟩⟩,⟨(y0:Int),z0,⟨⟩⟩,(o0:Int),⟨⟩⟩,⟨⟩⟩:=x;obtain ⟨⟨⟨⟩,⟨⟩,⟨⟩,⟨⟩,⟨⟨⟨⟩,⟨⟩,⟨⟩⟩,⟨⟨⟩,⟨⟩,⟨⟩⟩,⟨⟩,⟨⟩,⟨⟩⟩,⟨⟨⟨⟩,⟨⟩,⟨⟩⟩,⟨⟨⟩,⟨⟩,⟨⟩⟩,⟨⟩,⟨⟩,⟨⟩⟩,⟨⟨⟩,⟨⟩,⟨⟩⟩,⟨⟩,⟨⟩⟩,⟨⟩⟩:=h;obtain ⟨⟨(fr:Int),⟨⟩⟩,⟨⟩⟩:=y;obtain ⟨⟨⟨⟩,⟨⟩⟩,⟨⟩⟩:=k
  try dsimp only
 all_goals
  obtain ⟨⟨⟨d1,d2⟩,⟨w1,w2⟩,f0,f1,hs,hF⟩,o1,o2,o3,o4⟩:=hp;have f0:n7 k0 q0 s0 t0 r0:=f0;have f1:n7 n0 u0 w0 x0 v0:=f1;have hs:oN l0 o0 k0 y0 z0:=hs;have hF:n0=k0:=hF;have f0':=f0;have f1':=f1;obtain ⟨a1,a2,a3,a4,a5⟩:=f0';obtain ⟨b1,b2,b3,b4,b5⟩:=f1';have hs':=hs;obtain ⟨s1,s2,s3,s4,s5,s6,s7⟩:=hs';obtain ⟨s8,s9,s10,s11⟩:=s1;have d1:0≤m0:=d1;have d2:m0≤8:=d2;have w1:1≤p0:=w1;have w2:p0≤16:=w2;have o1:k0≤fr:=o1;have o2:fr≤o0:=o2;have o3:0≤l0:=o3;have o4:l0≤4294967295:=o4;simp only [cl];have hw:=s7 fr o1 o2;refine ⟨⟨⟨s8,s9,s10,s11⟩,by omega,⟨by omega,by omega,by omega⟩,_,_,_,hw⟩,fun x z hx hz=>?_⟩
  obtain ⟨e1,e2,e3⟩:=FU (hw.symm.trans hz);refine ⟨?_,fun y w hw2=>?_⟩
  ·show 0≤z.fst.fst∧z.fst.fst≤600∧0≤z.fst.snd.fst∧z.fst.snd.fst≤4294967295∧1≤z.fst.snd.snd.snd.fst∧z.fst.snd.snd.snd.fst≤600;rw [←e1,←e2,←e3];exact ⟨(show (0:Int)≤fr by omega),(show fr≤(600:Int) by omega),o3,o4,(show (1:Int)≤600-fr by omega),(show (600:Int)-fr≤600 by omega)⟩
  ·have h:=(show w.1.1=iN (n8 z.fst.fst z.fst.snd.fst z.fst.snd.snd.snd.fst) from hw2);rw [←e1,←e2,←e3] at h;rw [hx];exact ⟨rfl,h⟩
theorem Yb:ab Tryz.prog 146 O9:=NS.1
theorem YC:ab Tryz.prog 146 Nv:=NS.2
noncomputable def V6:=u7.add 146 Yb
noncomputable def Gc:=V6.add 76 Lp
noncomputable def ym:=Gc.add 147 wi
noncomputable def CI:=ym.add 33 Gp
noncomputable def D1:=CI.add 43 Np
noncomputable def CO:=D1.add 130 GQ
noncomputable def yb:=CO.add 78 wC
noncomputable def rF:=yb.add 103 F8
def Cc(x:(aQ×aA×Unit))(y:(aY×Unit)):Prop:= ∃a,au 0 x.1 a∧a.mK∧a.hl=false∧a.k.st≠2
def eB(x:(aQ×aA×Unit))(y:(aY×Unit))(x':(aQ×aA×Unit))(z:(Unit)):Prop:= ∀a,au 0 x.1 a→a.mK→au 0 x'.1 a.eY
noncomputable def JC:MC:=qC [true,true,false] [an,dp] [(false,[.cl (.int .u8 (0))])] [] Cc eB
abbrev Je:Type:=eZ [(false,[Sp.cl Lc.aj]),(false,[Sp.cl (Lc.int IntKind.i64 (0:Int))])]
abbrev Gj:Type:=aZ [(false,[Sp.cl Lc.aj]),(false,[Sp.cl (Lc.int IntKind.i64 (0:Int))])]
abbrev ND:Type:=eZ [(true,[Sp.int IntKind.i64,Sp.cl Lc.aj]),(false,[Sp.cl (Lc.int IntKind.i64 (0:Int))])]
abbrev F4:Type:=aZ [(true,[Sp.int IntKind.i64,Sp.cl Lc.aj]),(false,[Sp.cl (Lc.int IntKind.i64 (0:Int))])]
abbrev O6:Type:=eZ [(false,[Sp.int IntKind.i64]),(false,[Sp.cl (Lc.int IntKind.i64 (0:Int))])]
abbrev EP:Type:=aZ [(false,[Sp.int IntKind.i64]),(false,[Sp.cl (Lc.int IntKind.i64 (0:Int))])]
abbrev jq:Type:=aQ×aA×Unit
abbrev a1D:Type:=Int×Bool×Int×Unit×Unit
abbrev ZI:Type:=Bool×Int×Unit×Unit
abbrev zN:Type:=ca [Kd.int IntKind.i64] [Kd.int IntKind.u32]×Nat
abbrev uu:Type:=ca [Kd.int IntKind.i64] [Kd.int IntKind.u32]
def QcM(a:jq):a1D:=a.1.2.2.2.2.2.2.2.2
def QcN(a:jq):ZI:=(QcM a).2
def Oh(a:jq):Prop:=mV (Q6r (Q5 ((QcM a).1=(QcM a).1) ((QcN a).1=(QcN a).1) ((QcN a).2.1=(QcN a).2.1) lG))
def QcP(a:G8)(b:cH.T):Prop:=Qcv (bq a) (aV b)
def QcT(a:Il):aA×Unit:=(((),(),a),())
def MA(a:jq):aA×Unit:=QcT (a.2.1.2.2.1,())
def QcU(a:jq):SO:=a.1.2.1.2.2.2.2.2.2
def xQ(a:Prop)(b:jq):Prop:=Qcv (cu a (Qb4 (Qb1 b.1.1)) (Qb4 (CP b.1.1)) (Qb3 b.1.1).1.2.1.length (Qb3 b.1.1).1.2.1.length QJ) (Q23 QJ (QA (QcU b).1.1.length (QcU b).1.1.length) (QcU b).2.2.2.1.1.length (QcU b).2.2.2.1.1.length QJ)
def QcK(a:Prop)(b:jq)(c:F4)(d:Prop):Prop:=Q9l Qc1 mJ a (K5 (Oh b) (([]:List (Row uv×Row Db×Nat))= []) (wu (b.1.2.2.1,()) ((c.1.1,Qk),(c.1.1,()),())) d)
def PO(a:aQ):zN:=a.2.2.2.2.2.2.1
def QcY(a:aQ):zN:=a.2.2.2.2.2.2.2.1
def W4(a:aQ)(b:uu)(c:zN)(d:uu)(e:Int)(f:Bool)(g:Int):rP×aY×pD×(ca [Kd.int IntKind.i64] [Kd.int IntKind.u32]×Nat)×(ca [Kd.int IntKind.i64] [Kd.int IntKind.u32]×Nat)×Int×Bool×Int×Unit×Unit:=((a.2.2.2.1.1,Qj),Qk,Mz,(b,c.2),(d,(QcY a).2),e,f,g,Qk)
def QcX(a:jq):uu:=(QcY a.1).1
def Ws(a:jq)(b:AJ)(c:jn)(d:dB)(e:gy):Prop:=eB a b ((c.1,d.1,e.1,W4 a.1 (PO a.1).1 (PO a.1) (QcX a) (QcM a).1 (QcN a).1 (QcN a).2.1),QcT (true,())) ()
def Kq(a:jq)(b:F4)(c:gy)(d:Gj)(e:Prop):Prop:=Qa2 Q6n (rT (a.1.2.2.1,()) ((b.1.1,Qk),(b.1.1,()),()) c d) (Q7 (Oh a) e e)
def EA(a:jq)(b:EP)(c:dB)(d:kE)(e f g:Prop):Prop:=Q3j II (mS (a.1.2.1,()) ((b.1.1,()),mB) c d) (Qs e f g)
def Mi(a:jq)(b:cO):Int:=(Qb3 a.1.1).2.1-b.2.2.1
def mZ(a:jq):Prop:=Q23 QJ (QA (QcU a).1.1.length (QcU a).1.1.length) (QcU a).2.2.2.1.1.length (QcU a).2.2.2.1.1.length QJ
def Fo(a:jq):Bool:=decide ((4:Int)<(Mi a (CP a.1.1)-(QcM a).1))
def yx(a:ni×Unit):Prop:=lj a ()
def QcI(a:jq)(b:cO)(c:Bool)(d e f g i:Prop):Prop:=RA (QS (Mi a b) (QcM a).1) (kS c) (mZ a) (p8 (a.1.2.1,()) ()) (Q3 (Q6J (a.1.2.1.2.2.2.2.1.tmod (2:Int))) (QR d e)) (Q4 (Q6J (a.1.2.1.2.2.2.2.1.tmod (2:Int))) (Qbc f g i))
noncomputable def U5:=rz.add 146 YC
noncomputable def CT:=U5.add 76 Lp
noncomputable def uV:=CT.add 147 wi
noncomputable def ze:=uV.add 33 Gp
noncomputable def Af:=ze.add 43 Np
noncomputable def zZ:=Af.add 130 GQ
noncomputable def wx:=zZ.add 78 wC
noncomputable def qg:=wx.add 103 F8
def zw(x:(bD×aA×Unit))(y:(aY×Unit)):Prop:= ∃a,au 1 x.1 a∧a.mK∧a.hl=false∧a.k.st≠2
def eg(x:(bD×aA×Unit))(y:(aY×Unit))(x':(bD×aA×Unit))(z:(Unit)):Prop:= ∀a,au 1 x.1 a→a.mK→au 1 x'.1 a.eY
noncomputable def J0:MC:=qC [true,true,false] [aS,dp] [(false,[.cl (.int .u8 (0))])] [] zw eg
def HT(a:G8)(b:cH.T):Prop:=Qcv (bF a) (aV b)
def K2(a:jq)(b:AJ)(c:jn)(d:dB)(e:gy):Prop:=eg a b ((c.1,d.1,e.1,W4 a.1 (PO a.1).1 (PO a.1) (QcX a) (QcM a).1 (QcN a).1 (QcN a).2.1),QcT (true,())) ()
def Qd0(a:jq)(b:jn)(c:EP)(d:Prop):Prop:=Qa2 Qc1 (eR (a.1.1,()) mB b c) (Qbc (aV a.1.2.1) (HY (a.1.2.1,()) ((c.1.1,()),mB)) d)
def QcZ(a:jq):Bool:=decide ((4:Int)<(Mi a (Qb1 a.1.1)-(QcM a).1))
theorem Hu:ab Tryz.prog 36 JC∧ab Tryz.prog 36 J0:=by
 refine ⟨?a,?b⟩
 case' a=>
  refine ah (cx Mx [99,84,52,128,74,69,79] jt rF) Tryz.func36 (by kernel_rfl) (by kernel_rfl) fun (x:(aQ×aA×Unit)) h (y:(aY×Unit)) k hf hg hp=>⟨(fun bk=>match bk with|70700001=>some {S:=Unit,st:=fun s=>⟨[.v (.one (.ptr 0 0))],[]⟩,ok:=fun s=>True,mu:=fun s=>0,init:=()}|_=>none),400,af (q:=Qz (mZ x) (yx (x.1.2.1,())) (Q4 (RI x.1.2.1.2.2.1) (Q0 (Fo x) (W9 (xQ lG x) (l7 (x.1,()) ()) (QcI x (CP x.1.1) (Fo x) (aX x.1) (eB x y (x.1,MA x) ()) (bq x.1.1) (pH (x.1.1,()) mB) (∀ (va:jn) (vb:Bm) (vc:EP) (vd:O6),Qa2 Qc1 (eW (x.1.1,()) mB va vc) (Qbc (aV x.1.2.1) (HY (x.1.2.1,()) ((vc.1.1,()),mB)) (∀ (ve:dB) (vf:m6) (vg:kE) (vi:lA),Q3j II (mS (x.1.2.1,()) ((vc.1.1,()),mB) ve vg) (QR (bq va.1) (sH (va.1,()) ()∧(∀ (vj:jn) (vl:Bm) (vm:F4) (vn:ND),QcK (iL (va.1,()) () vj vm) x vm (∀ (vo:gy) (vp:lC) (vq:Gj) (vr:Je),Kq x vm vo vq (QC (Q6r (mV (Q5 ((QcM x).1=(QcM x).1) ((QcN x).1=(QcN x).1) ((QcN x).2.1=(QcN x).2.1) lG))) (Oh x) (QcP vj.1 ve.1) (Ws x y vj ve vo))))))))))) (Qz (xQ lG x) (l7 (x.1,()) ()) (QS (Mi x (CP x.1.1)) (QcM x).1) (QbG (Q18 (Fo x)) (bq x.1.1) (pH (x.1.1,()) mB) (∀ (va:jn) (vb:Bm) (vc:EP) (vd:O6),Qa2 (mV (Q5 Sa Sa mJ JY)) (eW (x.1.1,()) mB va vc) (Qbc (aV x.1.2.1) (HY (x.1.2.1,()) ((vc.1.1,()),mB)) (∀ (ve:dB) (vf:m6) (vg:kE) (vi:lA),EA x vc ve vg (bq va.1) (sH (va.1,()) ()) (∀ (vj:jn) (vl:Bm) (vm:F4) (vn:ND),QcK (iL (va.1,()) () vj vm) x vm (∀ (vo:gy) (vp:lC) (vq:Gj) (vr:Je),Kq x vm vo vq (QC (Oh x) (Oh x) (QcP vj.1 ve.1) (Ws x y vj ve vo))))))))))) (Q3 (RI x.1.2.1.2.2.1) (QR (aX x.1) (eB x y (x.1,MA x) ())))) (by kernel_rfl) ?_⟩
  delta Q7 Q6 oO lG QC Qn Yy Q6r QbG cR Qs Q3 ya Qr mV Qk mJ Q4 Q5 mQ QJ cu Yo Q6q JY Q0 Sa Q23 Qb3 uI mB Qj Qcy Qcv QcM Qc1 CP PO QcY Qi QA Qb1 xz QcN Q9l Mz Ye dD Q3j W4 K5 RA Qb4 Q2l Oh Qa2 Q6n Qz Qbc II QcX kS QcP QR QS Q18 QcT MA QcU xQ QcK Ws Kq EA Mi W9 mZ Fo Q6J yx RI QcI bq aV aX;obtain ⟨⟨⟨(o0:Int),(p0:Int),(q0:Int),⟨⟩,⟨⟨(n0:Int),s0,⟨⟩⟩,⟨(t0:Int),u0,⟨⟩⟩,(l0:Int),⟨⟩,⟨⟩⟩,⟨⟨(r0:Int),v0,⟨⟩⟩,⟨(w0:Int),x0,⟨⟩⟩,(m0:Int),⟨⟩,⟨⟩⟩,⟨(y0:Int),z0,⟨⟩⟩,(k0:Int),⟨⟩⟩,⟨(n1:Int),(q1:Int),(a0:Int),⟨⟩,(z1:Int),(l1:Int),⟨p1,(o1:Int),(b0:Int),⟨⟩⟩,(c0:Int),(m1:Int),⟨i0,(h0:Int),(d0:Int),⟨⟩⟩,(k1:Int),(j0:Int),(u1:Int),⟨⟩⟩,⟨(j1:Int),i1,⟨k2,l2⟩,(e0:Int),g0,⟨⟩⟩,⟨(m2:Int),⟨⟩,⟨⟩,⟨⟩⟩,⟨⟨⟩,⟨⟩⟩,⟨⟨⟩,⟨⟩,⟨⟩,⟨⟩,⟨⟩⟩,⟨e1,n2⟩,⟨a1,p2⟩,(b1:Int),c1,(o2:Int),⟨⟩,⟨⟩⟩,⟨⟨⟩,⟨⟩,g1,⟨⟩⟩,⟨⟩⟩:=x;obtain ⟨⟨⟨⟨⟩,⟨⟩,⟨⟩,⟨⟩,⟨⟨⟨⟩,⟨⟩,⟨⟩⟩,⟨⟨⟩,⟨⟩,⟨⟩⟩,⟨⟩,⟨⟩,⟨⟩⟩,⟨⟨⟨⟩,⟨⟩,⟨⟩⟩,⟨⟨⟩,⟨⟩,⟨⟩⟩,⟨⟩,⟨⟩,⟨⟩⟩,⟨⟨⟩,⟨⟩,⟨⟩⟩,⟨⟩,⟨⟩⟩,⟨⟨⟩,⟨⟩,⟨⟩,⟨⟩,⟨⟩,⟨⟩,⟨⟨⟩,⟨⟩,⟨⟩,⟨⟩⟩,⟨⟩,⟨⟩,⟨⟨⟩,⟨⟩,⟨⟩,⟨⟩⟩,⟨⟩,⟨⟩,⟨⟩,⟨⟩⟩,⟨⟨⟩,⟨⟩,⟨⟩,⟨⟩,⟨⟩,⟨⟩⟩,⟨⟨⟩,⟨⟩,⟨⟩,⟨⟩⟩,⟨⟨⟩,⟨⟩⟩,⟨⟨⟩,⟨⟩,⟨⟩,⟨⟩,⟨⟩⟩,⟨⟩,⟨⟩,⟨⟩,⟨⟩,⟨⟩,⟨⟩,⟨⟩⟩,⟨⟨⟩,⟨⟩,⟨⟩,⟨⟩⟩,⟨⟩⟩:=h;obtain ⟨⟨⟨⟩,⟨⟩⟩,⟨⟩⟩:=y;obtain ⟨⟨⟨⟩,⟨⟩⟩,⟨⟩⟩:=k
  try dsimp only
  have A':=()
 case' b=>
  refine ah (cx Mx [99,84,52,128,74,69,79] cX qg) Tryz.func36 (by kernel_rfl) (by kernel_rfl) fun (x:(bD×aA×Unit)) h (y:(aY×Unit)) k hf hg hp=>⟨(fun bk=>match bk with|70700001=>some {S:=Unit,st:=fun s=>⟨[.v (.one (.ptr 0 0))],[]⟩,ok:=fun s=>True,mu:=fun s=>0,init:=()}|_=>none),400,af (q:=Qz (mZ x) (yx (x.1.2.1,())) (Q4 (RI x.1.2.1.2.2.1) (Q0 (QcZ x) (W9 (xQ Q5e x) (lk (x.1,()) ()) (QcI x (Qb1 x.1.1) (QcZ x) (b7 x.1) (eg x y (x.1,MA x) ()) (bF x.1.1) (pP (x.1.1,()) mB) (∀ (va:Cb) (vb:BY) (vc:EP) (vd:O6),Qd0 x va vc (∀ (ve:dB) (vf:m6) (vg:kE) (vi:lA),EA x vc ve vg (bF va.1) (rH (va.1,()) ()) (∀ (vj:Cb) (vl:BY) (vm:F4) (vn:ND),QcK (iE (va.1,()) () vj vm) x vm (∀ (vo:gy) (vp:lC) (vq:Gj) (vr:Je),Kq x vm vo vq (QC (Oh x) (Oh x) (HT vj.1 ve.1) (K2 x y vj ve vo)))))))) (Qz (xQ Q5e x) (lk (x.1,()) ()) (QS (Mi x (Qb1 x.1.1)) (QcM x).1) (QbG (Q18 (QcZ x)) (bF x.1.1) (pP (x.1.1,()) mB) (∀ (va:Cb) (vb:BY) (vc:EP) (vd:O6),Qd0 x va vc (∀ (ve:dB) (vf:m6) (vg:kE) (vi:lA),EA x vc ve vg (bF va.1) (rH (va.1,()) ()) (∀ (vj:Cb) (vl:BY) (vm:F4) (vn:ND),QcK (iE (va.1,()) () vj vm) x vm (∀ (vo:gy) (vp:lC) (vq:Gj) (vr:Je),Kq x vm vo vq (QC (Oh x) (Oh x) (HT vj.1 ve.1) (K2 x y vj ve vo)))))))))) (Q3 (RI x.1.2.1.2.2.1) (QR (b7 x.1) (eg x y (x.1,MA x) ())))) (by kernel_rfl) ?_⟩
  delta Q7 Q6 oO lG QC Qn Yy Q6r QbG cR Qs Q3 ya Qr mV Qk mJ Q4 Q5 mQ QJ cu Yo Q6q JY Q0 Sa Q23 Qb3 uI mB Qj Qcy Qcv QcM Qc1 CP PO QcY Qi QA Qb1 xz QcN Q9l Mz Q5e Ye dD Q3j W4 K5 RA Qb4 Q2l Oh Qa2 Q6n Qz Qbc II QcX kS HT QR QS Q18 QcT MA QcU xQ QcK K2 Kq EA Mi Qd0 W9 mZ QcZ Q6J yx RI QcI bF aV b7;obtain ⟨⟨⟨(o0:Int),(p0:Int),(q0:Int),⟨⟩,⟨⟨(n0:Int),s0,⟨⟩⟩,⟨(t0:Int),u0,⟨⟩⟩,(m0:Int),⟨⟩,⟨⟩⟩,⟨⟨(r0:Int),v0,⟨⟩⟩,⟨(w0:Int),x0,⟨⟩⟩,(l0:Int),⟨⟩,⟨⟩⟩,⟨(y0:Int),z0,⟨⟩⟩,(k0:Int),⟨⟩⟩,⟨(n1:Int),(q1:Int),(a0:Int),⟨⟩,(z1:Int),(l1:Int),⟨p1,(o1:Int),(b0:Int),⟨⟩⟩,(c0:Int),(m1:Int),⟨i0,(h0:Int),(d0:Int),⟨⟩⟩,(k1:Int),(j0:Int),(u1:Int),⟨⟩⟩,⟨(j1:Int),i1,⟨k2,l2⟩,(e0:Int),g0,⟨⟩⟩,⟨(m2:Int),⟨⟩,⟨⟩,⟨⟩⟩,⟨⟨⟩,⟨⟩⟩,⟨⟨⟩,⟨⟩,⟨⟩,⟨⟩,⟨⟩⟩,⟨e1,n2⟩,⟨a1,p2⟩,(b1:Int),c1,(o2:Int),⟨⟩,⟨⟩⟩,⟨⟨⟩,⟨⟩,g1,⟨⟩⟩,⟨⟩⟩:=x;obtain ⟨⟨⟨⟨⟩,⟨⟩,⟨⟩,⟨⟩,⟨⟨⟨⟩,⟨⟩,⟨⟩⟩,⟨⟨⟩,⟨⟩,⟨⟩⟩,⟨⟩,⟨⟩,⟨⟩⟩,⟨⟨⟨⟩,⟨⟩,⟨⟩⟩,⟨⟨⟩,⟨⟩,⟨⟩⟩,⟨⟩,⟨⟩,⟨⟩⟩,⟨⟨⟩,⟨⟩,⟨⟩⟩,⟨⟩,⟨⟩⟩,⟨⟨⟩,⟨⟩,⟨⟩,⟨⟩,⟨⟩,⟨⟩,⟨⟨⟩,⟨⟩,⟨⟩,⟨⟩⟩,⟨⟩,⟨⟩,⟨⟨⟩,⟨⟩,⟨⟩,⟨⟩⟩,⟨⟩,⟨⟩,⟨⟩,⟨⟩⟩,⟨⟨⟩,⟨⟩,⟨⟩,⟨⟩,⟨⟩,⟨⟩⟩,⟨⟨⟩,⟨⟩,⟨⟩,⟨⟩⟩,⟨⟨⟩,⟨⟩⟩,⟨⟨⟩,⟨⟩,⟨⟩,⟨⟩,⟨⟩⟩,⟨⟩,⟨⟩,⟨⟩,⟨⟩,⟨⟩,⟨⟩,⟨⟩⟩,⟨⟨⟩,⟨⟩,⟨⟩,⟨⟩⟩,⟨⟩⟩:=h;obtain ⟨⟨⟨⟩,⟨⟩⟩,⟨⟩⟩:=y;obtain ⟨⟨⟨⟩,⟨⟩⟩,⟨⟩⟩:=k
  try dsimp only
  have B':=()
 all_goals
  obtain ⟨a,hR,hS,hl,hst⟩:=hp;have hR':=hR;obtain ⟨⟨hc,sd1,sd2⟩,⟨hk,hka⟩,⟨lt,lc,lh⟩,⟨mo,mw⟩,⟨ff,fh,frs⟩,⟨cd,cmn,cth,cn,cf⟩,sm,df,sr⟩:=hR';have sd1:0≤o0:=sd1;have sd2:o0≤4294967295:=sd2;have lc:e0=a.cm:=lc;have mo:mE e1=(if a.ow=true then [(16,a.sm)] else []):=mo;have mw:mE a1=(if a.wt=true then [(16,a.ot)] else []):=mw;have lh:g0=a.hl:=lh;have ff:b1=a.far:=ff;have fh:c1=a.hl:=fh;have cd:p0=a.d:=cd;have cmn:l0=a.mn:=cmn;have cth:m0=a.th:=cth;have cn:k0=a.now:=cn;have cf:n0=a.F:=cf;have hks:a0=a.k.st:=by rw [←hka];rfl
  have hkak:c0=a.k.ak:=by rw [←hka];rfl
  have hkon:b0=a.k.on:=by rw [←hka];rfl
  have hkn:d0=(a.k.q.length:Int):=by
   rw [←hka];show _=((List.map mA (rQ i0 h0 d0)).length:Int);rw [List.length_map];exact jg hk.2.1.1
  have hc':=hc;obtain ⟨⟨d1,d2⟩,⟨w1,w2⟩,f0,f1,hs,hF⟩:=hc'
  first|(have:=A';have f0:n7 n0 s0 t0 u0 l0:=f0)|(have:=B';have f0:n7 n0 s0 t0 u0 m0:=f0)
  first|(have:=A';have f1:n7 r0 v0 w0 x0 m0:=f1)|(have:=B';have f1:n7 r0 v0 w0 x0 l0:=f1)
  have hs:oN o0 k0 n0 y0 z0:=hs;have hF:r0=n0:=hF;obtain ⟨-,-,-,a4,a5⟩:=f0;obtain ⟨-,-,-,b4,b5⟩:=f1;obtain ⟨s1,s2,s3,s4,s5,s6,-⟩:=hs;obtain ⟨s8,s9,s10,s11⟩:=s1;have d1:0≤p0:=d1;have d2:p0≤8:=d2;have w1:1≤q0:=w1;have w2:q0≤16:=w2
  first
   |have:=A'
    have same: ¬a0=1→eB (((o0,p0,q0,(),((n0,s0,()),(t0,u0,()),l0,(),()),((r0,v0,()),(w0,x0,()),m0,(),()),(y0,z0,()),k0,()),(n1,q1,a0,(),z1,l1,(p1,o1,b0,()),c0,m1,(i0,h0,d0,()),k1,j0,u1,()),(j1,i1,(k2,l2),e0,g0,()),(m2,(),(),()),((),()),((),(),(),(),()),(e1,n2),(a1,p2),b1,c1,o2,(),()),((),(),g1,()),()) (((),()),()) (((o0,p0,q0,(),((n0,s0,()),(t0,u0,()),l0,(),()),((r0,v0,()),(w0,x0,()),m0,(),()),(y0,z0,()),k0,()),(n1,q1,a0,(),z1,l1,(p1,o1,b0,()),c0,m1,(i0,h0,d0,()),k1,j0,u1,()),(j1,i1,(k2,l2),e0,g0,()),(m2,(),(),()),((),()),((),(),(),(),()),(e1,n2),(a1,p2),b1,c1,o2,(),()),((),(),g1,()),()) ():=fun h a2 hR2 _=>by
     have e:a2.k.st=a0:=by rw [←hR2.2.1.2];rfl
     rw [show a2.eY=a2 from if_neg (by rw [e];exact h)]
     exact hR2
   |have:=B'
    have same: ¬a0=1→eg (((o0,p0,q0,(),((n0,s0,()),(t0,u0,()),m0,(),()),((r0,v0,()),(w0,x0,()),l0,(),()),(y0,z0,()),k0,()),(n1,q1,a0,(),z1,l1,(p1,o1,b0,()),c0,m1,(i0,h0,d0,()),k1,j0,u1,()),(j1,i1,(k2,l2),e0,g0,()),(m2,(),(),()),((),()),((),(),(),(),()),(e1,n2),(a1,p2),b1,c1,o2,(),()),((),(),g1,()),()) (((),()),()) (((o0,p0,q0,(),((n0,s0,()),(t0,u0,()),m0,(),()),((r0,v0,()),(w0,x0,()),l0,(),()),(y0,z0,()),k0,()),(n1,q1,a0,(),z1,l1,(p1,o1,b0,()),c0,m1,(i0,h0,d0,()),k1,j0,u1,()),(j1,i1,(k2,l2),e0,g0,()),(m2,(),(),()),((),()),((),(),(),(),()),(e1,n2),(a1,p2),b1,c1,o2,(),()),((),(),g1,()),()) ():=fun h a2 hR2 _=>by
     have e:a2.k.st=a0:=by rw [←hR2.2.1.2];rfl
     rw [show a2.eY=a2 from if_neg (by rw [e];exact h)]
     exact hR2
  simp only [cl];refine ⟨trivial,fun h1=>⟨fun h2=>?_,fun h2=>?_⟩,same⟩
  ·obtain ⟨t1,t2,t3,t4,t5,t6,t7,t8,t9,t10⟩:=hS (hks.symm.trans h1);omega
  obtain ⟨t1,t2,t3,t4,t5,t6,t7,t8,t9,t10⟩:=hS (hks.symm.trans h1);refine ⟨⟨(show (0:Int)≤k0 by omega),(show k0≤(1000000:Int) by omega),(show (0:Int)≤m0 by omega),(show m0≤(1000000:Int) by omega)⟩,by simp only [aL,aT,aU];omega,h2,⟨hc,(show l0=k0+p0 by omega),(show k0+p0≤m0 by omega),(show l0-n0<64 by omega),(show l0<1000 by omega)⟩,fun x z hx=>?_⟩
  first|(have:=A';obtain ⟨x1,x2,x3,x4,x5,x6,x7⟩:=(show gT x.1∧fI (o0,p0,q0,(),((n0,s0,()),(t0,u0,()),l0,(),()),((r0,v0,()),(w0,x0,()),m0,(),()),(y0,z0,()),k0,()) x.1∧cF x.1=cF (o0,p0,q0,(),((n0,s0,()),(t0,u0,()),l0,(),()),((r0,v0,()),(w0,x0,()),m0,(),()),(y0,z0,()),k0,())∧z.1.1=cN (o0,p0,q0,(),((n0,s0,()),(t0,u0,()),l0,(),()),((r0,v0,()),(w0,x0,()),m0,(),()),(y0,z0,()),k0,()) 0∧cN x.1 0=cN (o0,p0,q0,(),((n0,s0,()),(t0,u0,()),l0,(),()),((r0,v0,()),(w0,x0,()),m0,(),()),(y0,z0,()),k0,()) 0+1∧cN x.1 1=cN (o0,p0,q0,(),((n0,s0,()),(t0,u0,()),l0,(),()),((r0,v0,()),(w0,x0,()),m0,(),()),(y0,z0,()),k0,()) 1∧aJ x.1=aJ (o0,p0,q0,(),((n0,s0,()),(t0,u0,()),l0,(),()),((r0,v0,()),(w0,x0,()),m0,(),()),(y0,z0,()),k0,()) from hx))|(have:=B';obtain ⟨x1,x2,x3,x4,x5,x6,x7⟩:=(show gT x.1∧fI (o0,p0,q0,(),((n0,s0,()),(t0,u0,()),m0,(),()),((r0,v0,()),(w0,x0,()),l0,(),()),(y0,z0,()),k0,()) x.1∧cF x.1=cF (o0,p0,q0,(),((n0,s0,()),(t0,u0,()),m0,(),()),((r0,v0,()),(w0,x0,()),l0,(),()),(y0,z0,()),k0,())∧z.1.1=cN (o0,p0,q0,(),((n0,s0,()),(t0,u0,()),m0,(),()),((r0,v0,()),(w0,x0,()),l0,(),()),(y0,z0,()),k0,()) 1∧cN x.1 1=cN (o0,p0,q0,(),((n0,s0,()),(t0,u0,()),m0,(),()),((r0,v0,()),(w0,x0,()),l0,(),()),(y0,z0,()),k0,()) 1+1∧cN x.1 0=cN (o0,p0,q0,(),((n0,s0,()),(t0,u0,()),m0,(),()),((r0,v0,()),(w0,x0,()),l0,(),()),(y0,z0,()),k0,()) 0∧aJ x.1=aJ (o0,p0,q0,(),((n0,s0,()),(t0,u0,()),m0,(),()),((r0,v0,()),(w0,x0,()),l0,(),()),(y0,z0,()),k0,()) from hx))
  refine ⟨⟨hk,(show a0≠2 by omega),x4.trans (show l0=c0+b0 by omega),(show b0<64 by omega)⟩,fun y w hy=>?_⟩
  obtain ⟨y1,y2⟩:=(show fe y.1∧bn y.1= {bn (n1,q1,a0,(),z1,l1,(p1,o1,b0,()),c0,m1,(i0,h0,d0,()),k1,j0,u1,()) with on:=(bn (n1,q1,a0,(),z1,l1,(p1,o1,b0,()),c0,m1,(i0,h0,d0,()),k1,j0,u1,())).on+1} from hy);refine ⟨⟨x1,?_,?_,?_,?_⟩,fun v u hv=>?_⟩
  ·first|(have:=A';show aJ x.1<cN x.1 0)|(have:=B';show aJ x.1<cN x.1 1)
   rw [x7,x5];show k0<l0+1;omega
  ·show aJ x.1-min (cN x.1 0) (cN x.1 1)<cW x.1;rw [x7,x5,x6,x2.2.2]
   first|(have:=A';show k0-min (l0+1) m0<q0;omega)|(have:=B';show k0-min m0 (l0+1)<q0;omega)
  ·show aJ x.1<490;rw [x7];show k0<490;omega
  ·show aJ x.1-cF x.1<60;rw [x7,x3];show k0-n0<60;omega
  first|(have:=A';obtain ⟨v1,v2,v3,v4,v5,v6,v7⟩:=(show gT v.1∧fI x.1 v.1∧cF v.1=cF x.1∧u.1.1=aJ x.1∧cN v.1 0=cN x.1 0∧cN v.1 1=cN x.1 1∧aJ v.1=aJ x.1+1 from hv))|(have:=B';obtain ⟨v1,v2,v3,v4,v5,v6,v7⟩:=(show gT v.1∧fI x.1 v.1∧cF v.1=cF x.1∧u.1.1=aJ x.1∧cN v.1 1=cN x.1 1∧cN v.1 0=cN x.1 0∧aJ v.1=aJ x.1+1 from hv))
  have hu:u.1.1=k0:=v4.trans x7;refine ⟨⟨lt hl,(show g0=false by rw [lh,hl]),?_,Int.le_refl _,?_⟩,fun r q hr=>?_⟩
  ·show e0<u.1.1;rw [hu];omega
  ·show u.1.1≤1000000;rw [hu];show k0≤1000000;omega
  obtain ⟨r1,r2,r3⟩:=(show du r.1.2.2.1.1∧r.1.2.2.2.1=e0∧r.1.2.2.2.2.1=false from hr);intro a2 hR2 hS2;obtain ⟨⟨hc2,sd12,sd22⟩,⟨hk2,hka2⟩,⟨lt2,lc2,lh2⟩,⟨mo2,mw2⟩,⟨ff2,fh2,frs2⟩,⟨cd2,cmn2,cth2,cn2,cf2⟩,sm2,df2,sr2⟩:=hR2;have mw2:mE a1=(if a2.wt=true then [(16,a2.ot)] else []):=mw2;have sm2:a2.sm=iN (n8 16 o0 584):=sm2;have e:a2.k.st=a0:=by rw [←hka2];rfl
  rw [show a2.eY= {a2 with mn:=a2.mn+1,now:=a2.now+1,k:= {a2.k with on:=a2.k.on+1}} from if_pos (e.trans h1)];have lh2:g0=a2.hl:=lh2;have es:v.1.1=o0:=v2.1.trans x2.1;refine ⟨⟨v1,(show 0≤v.1.1 by rw [es];exact sd1),(show v.1.1≤4294967295 by rw [es];exact sd2)⟩,⟨y1,y2.trans (by rw [hka2])⟩,⟨fun _=>r1,r2.trans lc2,r3.trans (by rw [←lh2,lh,hl])⟩,⟨mo2,mw2⟩,⟨ff2,fh2,frs2⟩,⟨(v2.2.1.trans x2.2.1).trans cd2,v5.trans (x5.trans (congrArg (· +1) cmn2)),v6.trans (x6.trans cth2),v7.trans (congrArg (· +1) (x7.trans cn2)),v3.trans (x3.trans cf2)⟩,sm2.trans (by show iN (n8 16 o0 584)=iN (n8 16 v.1.1 584);rw [es]),df2,sr2⟩
theorem VC:ab Tryz.prog 36 JC:=Hu.1
theorem VZ:ab Tryz.prog 36 J0:=Hu.2
noncomputable def EU:=rF.add 36 VC
def ox(x:(aQ×aA×Unit))(y:(aY×Unit)):Prop:= ∃a,au 0 x.1 a∧a.hl=false∧a.ow=false∧a.k.st≠2∧a.F≤16∧16≤a.now∧a.k.q.length<8
def cE(x:(aQ×aA×Unit))(y:(aY×Unit))(x':(aQ×aA×Unit))(z:(Unit)):Prop:=(∀a,au 0 x.1 a→a.hl=false→a.ow=false→au 0 x'.1 a.rep)∧x'.2.1.2.2.1=x.2.1.2.2.1
noncomputable def Ab:MC:=qC [true,true,false] [an,dp] [(false,[.cl (.int .i64 (16))])] [] ox cE
abbrev wS:Type:=Row [Kd.int IntKind.u32]
abbrev a0x:Type:=eZ [(false,[Sp.int IntKind.u32]),(false,[Sp.cl (Lc.bool true)])]
abbrev IE:Type:=aZ [(false,[Sp.int IntKind.u32]),(false,[Sp.cl (Lc.bool true)])]
abbrev N6:Type:=di×rP×aY×pD×(ca [Kd.int IntKind.i64] [Kd.int IntKind.u32]×Nat)×(ca [Kd.int IntKind.i64] [Kd.int IntKind.u32]×Nat)×Int×Bool×Int×Unit×Unit
def Ic(a:jq)(b:IE):zN:=kC (PO a.1).1 (16:Int) (b.1.1,()) (PO a.1).2
def FD(a:aQ)(b:uu)(c:jq)(d:IE)(e:uu):N6:=(a.2.2.1,W4 a (nW b (-112:Int)) (Ic c d) e (QcM c).1 (QcN c).1 (QcN c).2.1)
def Qd8(a:Ak)(b:eL)(c:gy)(d:qh)(e:Prop):Prop:=Q3j Q6n (nX a b c d) e
def Qdd(a:jq):uu:=nW (QcX a) (16:Int)
def Qd7(a:jn)(b:dB)(c:jq)(d:IE):jq:=((a.1,b.1,FD c.1 (Ic c d).1 c d (Qdd c)),((),(),c.2.1.2.2.1,()),())
def qo(a:Prop)(b:cH.T)(c d:Prop):Prop:=Q7 (Qcv a (aV b)) c d
def WN(a:jn)(b:dB)(c:jq)(d:AJ)(e:jq):Prop:=qo (bq a.1) b.1 True (cE c d e ())
def Rp(a:jq)(b:IE):uu:=nW (Ic a b).1 (-112:Int)
def H9(a:Ak)(b:eL):Prop:=(([]:List (Row uv×Row Db×Nat))= [])∧Jp a b
def Qde(a:uu)(b:Int)(c:Prop)(d:uu)(e:jq)(f:Bool)(g i j:Prop):Prop:=Q3G (p9 a b=none) c (p9 d b=none→yn (H9 (e.1.2.2.1,()) ()) (QE e.1.2.2.1.2.2.2.1) f (QK (decide ((↑(List.length d):Int)<(8:Int))) g True i j) j)
def sk(a:jq):Bool:=decide ((QH a.1.2.2.1.2.2.2.1)<(16:Int))
def Qdf(a:uu)(b:Int)(c:wS)(d:jq)(e:Bool)(f:Prop):Prop:=p9 a b=some c→yn (H9 (d.1.2.2.1,()) ()) (QE d.1.2.2.1.2.2.2.1) e f f
def Qda(a:gy)(b:jq)(c:uu)(d:zN)(e:uu):N6:=(a.1,W4 b.1 c d e (QcM b).1 true (13:Int))
def J2(a:jq)(b:uu)(c:zN)(d:uu)(e:Int)(f:(Kd.int IntKind.u32).T×Row []):N6:=(a.1.2.2.1,(a.1.2.2.2.1.1,Qj),Qk,Mz,(b,c.2),((kC d e f (QcY a.1).2).1,(kC d e f (QcY a.1).2).2),(QcM a).1,(QcN a).1,(QcN a).2.1,Qk)
def Qd4(a:Prop)(b:jq)(c:IE)(d:Prop):Prop:=Qa2 Qc1 a (Qs (aV b.1.2.1) (xK (b.1.2.1,()) (((16:Int),()),(c.1.1,()),())) d)
def Qd6(a:jq)(b:IE)(c d:wS)(e f g i:Prop):Prop:=p9 (Rp a b) (16:Int)=some c→Q0 (c.1 !=d.1) (QK (QcN a).1 e True f (Q6m (lZ (a.1.2.2.1,()) ()) g)) i
def Qd5(a:jq)(b:IE)(c:dB)(d:kE)(e f:Prop):Prop:=Q3j II (jj (a.1.2.1,()) (((16:Int),()),(b.1.1,()),()) c d) (e∧(p9 (QcX a) (16:Int)=none→f))
def ZW:ky:=Qg (16:Int)
noncomputable def EH:=qg.add 36 VZ
def ov(x:(bD×aA×Unit))(y:(aY×Unit)):Prop:= ∃a,au 1 x.1 a∧a.hl=false∧a.ow=false∧a.k.st≠2∧a.F≤16∧16≤a.now∧a.k.q.length<8
def de(x:(bD×aA×Unit))(y:(aY×Unit))(x':(bD×aA×Unit))(z:(Unit)):Prop:=(∀a,au 1 x.1 a→a.hl=false→a.ow=false→au 1 x'.1 a.rep)∧x'.2.1.2.2.1=x.2.1.2.2.1
noncomputable def zm:MC:=qC [true,true,false] [aS,dp] [(false,[.cl (.int .i64 (16))])] [] ov de
def Pz(a:jn)(b:dB)(c:jq)(d:AJ)(e:jq):Prop:=qo (bF a.1) b.1 True (de c d e ())
theorem zq:ab Tryz.prog 80 Ab∧ab Tryz.prog 80 zm:=by
 refine ⟨?a,?b⟩
 case' a=>
  refine ah (cx Mx [128,45,55,79] jt EU) Tryz.func80 (by kernel_rfl) (by kernel_rfl) fun (x:(aQ×aA×Unit)) h (y:(aY×Unit)) k hf hg hp=>⟨bK,400,af (q:=Qs (bq x.1.1) (Ez (x.1.1,()) ZW) (∀ (va:jn) (vb:Bm) (vc:IE) (vd:a0x),Qd4 (sj (x.1.1,()) ZW va vc) x vc (∀ (ve:dB) (vf:m6) (vg:kE) (vi:lA),Qd5 x vc ve vg (∀ (vj:wS),Q3G (p9 (QcX x) (16:Int)=some vj) (∀ (vl:wS),Qd6 x vc vl vj (QcP va.1 ve.1) (cE x y (Qd7 va ve x vc) ()) (∀ (vm:gy) (vn:lC) (vo:qh) (vp:re),Qd8 (x.1.2.2.1,()) () vm vo (WN va ve x y ((va.1,ve.1,Qda vm x (Rp x vc) (Ic x vc) (Qdd x)),MA x))) (WN va ve x y (Qd7 va ve x vc))) (Qde (Rp x vc) (16:Int) (∀ (vl:wS),Qdf (Qdd x) (16:Int) vl x (sk x) (WN va ve x y (Qd7 va ve x vc))) (Qdd x) x (sk x) (QcP va.1 ve.1) (cE x y ((va.1,ve.1,J2 x (Rp x vc) (Ic x vc) (Qdd x) (16:Int) (vj.1,())),MA x) ()) (WN va ve x y (Qd7 va ve x vc)))) (WN va ve x y ((va.1,ve.1,FD x.1 (Ic x vc).1 x vc (QcX x)),((),(),x.2.1.2.2.1,()),()))))) (by kernel_rfl) ?_⟩
  delta Q7 Q6 oO lG QC Qn Yy Q6r QbG cR Qs Q3 ya Qr mV Qk mJ Q4 mQ Q6q JY Q0 Sa uI Qj Qcy Qcv QcM Qc1 QH PO QcY QK Qi xz QcN Qg Q9l Mz dD Q3j qo QE W4 Q2l Qa2 Q6n II QcX Ic FD QcP H9 Qd8 Qdd Qd7 Q6m QcT MA yn WN Q3G Rp Qde sk Qdf Qda J2 Qd4 Qd6 Qd5 ZW bq aV;obtain ⟨⟨⟨(k0:Int),(s0:Int),(f0:Int),⟨⟩,⟨⟨(n0:Int),w0,⟨⟩⟩,⟨(x0:Int),y0,⟨⟩⟩,(o0:Int),⟨⟩,⟨⟩⟩,⟨⟨(z0:Int),a0,⟨⟩⟩,⟨(b0:Int),c0,⟨⟩⟩,(p0:Int),⟨⟩,⟨⟩⟩,⟨(d0:Int),e0,⟨⟩⟩,(q0:Int),⟨⟩⟩,⟨(v1:Int),(z1:Int),(v0:Int),⟨⟩,(b1:Int),(t1:Int),⟨x1,(w1:Int),(k1:Int),⟨⟩⟩,(h0:Int),(u1:Int),⟨j0,(i0:Int),(r0:Int),⟨⟩⟩,(s1:Int),(q1:Int),(a1:Int),⟨⟩⟩,⟨(n1:Int),m1,⟨o1,p1⟩,(m0:Int),u0,⟨⟩⟩,⟨(c1:Int),⟨⟩,⟨⟩,⟨⟩⟩,⟨⟨⟩,⟨⟩⟩,⟨⟨⟩,⟨⟩,⟨⟩,⟨⟩,⟨⟩⟩,⟨d1,f1⟩,⟨l0,i1⟩,(g0:Int),t0,(h1:Int),⟨⟩,⟨⟩⟩,⟨⟨⟩,⟨⟩,j1,⟨⟩⟩,⟨⟩⟩:=x;obtain ⟨⟨⟨⟨⟩,⟨⟩,⟨⟩,⟨⟩,⟨⟨⟨⟩,⟨⟩,⟨⟩⟩,⟨⟨⟩,⟨⟩,⟨⟩⟩,⟨⟩,⟨⟩,⟨⟩⟩,⟨⟨⟨⟩,⟨⟩,⟨⟩⟩,⟨⟨⟩,⟨⟩,⟨⟩⟩,⟨⟩,⟨⟩,⟨⟩⟩,⟨⟨⟩,⟨⟩,⟨⟩⟩,⟨⟩,⟨⟩⟩,⟨⟨⟩,⟨⟩,⟨⟩,⟨⟩,⟨⟩,⟨⟩,⟨⟨⟩,⟨⟩,⟨⟩,⟨⟩⟩,⟨⟩,⟨⟩,⟨⟨⟩,⟨⟩,⟨⟩,⟨⟩⟩,⟨⟩,⟨⟩,⟨⟩,⟨⟩⟩,⟨⟨⟩,⟨⟩,⟨⟩,⟨⟩,⟨⟩,⟨⟩⟩,⟨⟨⟩,⟨⟩,⟨⟩,⟨⟩⟩,⟨⟨⟩,⟨⟩⟩,⟨⟨⟩,⟨⟩,⟨⟩,⟨⟩,⟨⟩⟩,⟨⟩,⟨⟩,⟨⟩,⟨⟩,⟨⟩,⟨⟩,⟨⟩⟩,⟨⟨⟩,⟨⟩,⟨⟩,⟨⟩⟩,⟨⟩⟩:=h;obtain ⟨⟨⟨⟩,⟨⟩⟩,⟨⟩⟩:=y;obtain ⟨⟨⟨⟩,⟨⟩⟩,⟨⟩⟩:=k
  try dsimp only
  have A':=()
 case' b=>
  refine ah (cx Mx [128,45,55,79] cX EH) Tryz.func80 (by kernel_rfl) (by kernel_rfl) fun (x:(bD×aA×Unit)) h (y:(aY×Unit)) k hf hg hp=>⟨bK,400,af (q:=Qs (bF x.1.1) (EC (x.1.1,()) ZW) (∀ (va:Cb) (vb:BY) (vc:IE) (vd:a0x),Qd4 (sa (x.1.1,()) ZW va vc) x vc (∀ (ve:dB) (vf:m6) (vg:kE) (vi:lA),Qd5 x vc ve vg (∀ (vj:wS),Q3G (p9 (QcX x) (16:Int)=some vj) (∀ (vl:wS),Qd6 x vc vl vj (HT va.1 ve.1) (de x y (Qd7 va ve x vc) ()) (∀ (vm:gy) (vn:lC) (vo:qh) (vp:re),Qd8 (x.1.2.2.1,()) () vm vo (Pz va ve x y ((va.1,ve.1,Qda vm x (Rp x vc) (Ic x vc) (Qdd x)),MA x))) (Pz va ve x y (Qd7 va ve x vc))) (Qde (Rp x vc) (16:Int) (∀ (vl:wS),Qdf (Qdd x) (16:Int) vl x (sk x) (Pz va ve x y (Qd7 va ve x vc))) (Qdd x) x (sk x) (HT va.1 ve.1) (de x y ((va.1,ve.1,J2 x (Rp x vc) (Ic x vc) (Qdd x) (16:Int) (vj.1,())),MA x) ()) (Pz va ve x y (Qd7 va ve x vc)))) (Pz va ve x y ((va.1,ve.1,FD x.1 (Ic x vc).1 x vc (QcX x)),((),(),x.2.1.2.2.1,()),()))))) (by kernel_rfl) ?_⟩
  delta Q7 Q6 oO lG QC Qn Yy Q6r QbG cR Qs Q3 ya Qr mV Qk mJ Q4 mQ Q6q JY Q0 Sa uI Qj Qcy Qcv QcM Qc1 QH PO QcY QK Qi xz QcN Qg Q9l Mz dD Q3j qo QE W4 Q2l Qa2 Q6n II QcX Ic FD HT H9 Qd8 Qdd Qd7 Q6m QcT MA Pz yn Q3G Rp Qde sk Qdf Qda J2 Qd4 Qd6 Qd5 ZW bF aV;obtain ⟨⟨⟨(k0:Int),(s0:Int),(f0:Int),⟨⟩,⟨⟨(n0:Int),w0,⟨⟩⟩,⟨(x0:Int),y0,⟨⟩⟩,(o0:Int),⟨⟩,⟨⟩⟩,⟨⟨(z0:Int),a0,⟨⟩⟩,⟨(b0:Int),c0,⟨⟩⟩,(p0:Int),⟨⟩,⟨⟩⟩,⟨(d0:Int),e0,⟨⟩⟩,(q0:Int),⟨⟩⟩,⟨(v1:Int),(z1:Int),(v0:Int),⟨⟩,(b1:Int),(t1:Int),⟨x1,(w1:Int),(k1:Int),⟨⟩⟩,(h0:Int),(u1:Int),⟨j0,(i0:Int),(r0:Int),⟨⟩⟩,(s1:Int),(q1:Int),(a1:Int),⟨⟩⟩,⟨(n1:Int),m1,⟨o1,p1⟩,(m0:Int),u0,⟨⟩⟩,⟨(c1:Int),⟨⟩,⟨⟩,⟨⟩⟩,⟨⟨⟩,⟨⟩⟩,⟨⟨⟩,⟨⟩,⟨⟩,⟨⟩,⟨⟩⟩,⟨d1,f1⟩,⟨l0,i1⟩,(g0:Int),t0,(h1:Int),⟨⟩,⟨⟩⟩,⟨⟨⟩,⟨⟩,j1,⟨⟩⟩,⟨⟩⟩:=x;obtain ⟨⟨⟨⟨⟩,⟨⟩,⟨⟩,⟨⟩,⟨⟨⟨⟩,⟨⟩,⟨⟩⟩,⟨⟨⟩,⟨⟩,⟨⟩⟩,⟨⟩,⟨⟩,⟨⟩⟩,⟨⟨⟨⟩,⟨⟩,⟨⟩⟩,⟨⟨⟩,⟨⟩,⟨⟩⟩,⟨⟩,⟨⟩,⟨⟩⟩,⟨⟨⟩,⟨⟩,⟨⟩⟩,⟨⟩,⟨⟩⟩,⟨⟨⟩,⟨⟩,⟨⟩,⟨⟩,⟨⟩,⟨⟩,⟨⟨⟩,⟨⟩,⟨⟩,⟨⟩⟩,⟨⟩,⟨⟩,⟨⟨⟩,⟨⟩,⟨⟩,⟨⟩⟩,⟨⟩,⟨⟩,⟨⟩,⟨⟩⟩,⟨⟨⟩,⟨⟩,⟨⟩,⟨⟩,⟨⟩,⟨⟩⟩,⟨⟨⟩,⟨⟩,⟨⟩,⟨⟩⟩,⟨⟨⟩,⟨⟩⟩,⟨⟨⟩,⟨⟩,⟨⟩,⟨⟩,⟨⟩⟩,⟨⟩,⟨⟩,⟨⟩,⟨⟩,⟨⟩,⟨⟩,⟨⟩⟩,⟨⟨⟩,⟨⟩,⟨⟩,⟨⟩⟩,⟨⟩⟩:=h;obtain ⟨⟨⟨⟩,⟨⟩⟩,⟨⟩⟩:=y;obtain ⟨⟨⟨⟩,⟨⟩⟩,⟨⟩⟩:=k
  try dsimp only
  have B':=()
 all_goals
  obtain ⟨a,hR,hl,ho,hst,h16,h17,hq8⟩:=hp;have hR':=hR;obtain ⟨⟨hc,sd1,sd2⟩,⟨hk,hka⟩,⟨lt,lc,lh⟩,⟨mo,mw⟩,⟨ff,fh,frs⟩,⟨cd,cmn,cth,cn,cf⟩,sm,df,sr⟩:=hR';have sd1:0≤k0:=sd1;have sd2:k0≤4294967295:=sd2;have lc:m0=a.cm:=lc;have mo:mE d1=(if a.ow=true then [(16,a.sm)] else []):=mo;have mw:mE l0=(if a.wt=true then [(16,a.ot)] else []):=mw;have lh:u0=a.hl:=lh;have ff:g0=a.far:=ff;have fh:t0=a.hl:=fh;have cd:s0=a.d:=cd
  first|(have:=A';have cmn:o0=a.mn:=cmn)|(have:=B';have cmn:p0=a.mn:=cmn)
  first|(have:=A';have cth:p0=a.th:=cth)|(have:=B';have cth:o0=a.th:=cth)
  have cn:q0=a.now:=cn;have cf:n0=a.F:=cf;have hks:v0=a.k.st:=by rw [←hka];rfl
  have hkak:h0=a.k.ak:=by rw [←hka];rfl
  have hkon:k1=a.k.on:=by rw [←hka];rfl
  have hkn:r0=(a.k.q.length:Int):=by
   rw [←hka];show _=((List.map mA (rQ j0 i0 r0)).length:Int);rw [List.length_map];exact jg hk.2.1.1
  rw [ho] at mo;have hown:=lT mo;have eP: ∀ (v:Row [.int .u32]) (k:Nat),(nW (kC d1 16 v k).1 (-112))= [((16,()),v,k)]:=fun v k=>by rw [hown];rfl
  have eG: ∀ (v:Row [.int .u32]) (k:Nat),p9 ([((16,()),v,k)]:ca [.int .i64] [.int .u32]) 16=some v:=fun v k=>rfl;have eD: ∀ (v:Row [.int .u32]) (k:Nat),nW ([((16,()),v,k)]:ca [.int .i64] [.int .u32]) 16= []:=fun v k=>rfl;simp only [eP];simp only [cl];refine ⟨⟨hc,(show n0≤16 by omega),(show 16≤q0 by omega),sd1,sd2⟩,fun x z hx=>?_⟩
  obtain ⟨hx1,hx2⟩:=(show x.1=(k0,s0,f0,(),((n0,w0,()),(x0,y0,()),o0,(),()),((z0,a0,()),(b0,c0,()),p0,(),()),(d0,e0,()),q0,())∧z.1.1=iN (n8 16 k0 584) from hx);have hz:z.1.1=a.sm:=hx2.trans sm.symm;refine ⟨⟨hk,(show v0≠2 by omega),(show (0:Int)≤16 by decide),(show (16:Int)≤9000 by decide),(show r0<8 by omega),(show 0≤z.1.1 by rw [hz];exact sr.1),(show z.1.1≤4294967295 by rw [hz];exact sr.2)⟩,fun y w hy=>?_⟩
  obtain ⟨y1,y2⟩:=(show fe y.1∧bn y.1= {bn (v1,z1,v0,(),b1,t1,(x1,w1,k1,()),h0,u1,(j0,i0,r0,()),s1,q1,a1,()) with q:=(bn (v1,z1,v0,(),b1,t1,(x1,w1,k1,()),h0,u1,(j0,i0,r0,()),s1,q1,a1,())).q++ [(4,0,16,0,0,z.1.1,0)]} from hy);rw [hx1]
  first
   |have:=A'
    have hfin: ∀ (ownk:Nat) (wt':ca [.int .i64] [.int .u32]) (wtk:Nat) (ld:Sp.T fb) (hl':Bool) (rs':Int),mE wt'= []→(hl'=false→du ld.2.2.1.1)→ld.2.2.2.1=m0→ld.2.2.2.2.1=hl'→(∀a2,au 0 (((k0,s0,f0,(),((n0,w0,()),(x0,y0,()),o0,(),()),((z0,a0,()),(b0,c0,()),p0,(),()),(d0,e0,()),q0,()),(v1,z1,v0,(),b1,t1,(x1,w1,k1,()),h0,u1,(j0,i0,r0,()),s1,q1,a1,()),(n1,m1,(o1,p1),m0,u0,()),(c1,(),(),()),((),()),((),(),(),(),()),(d1,f1),(l0,i1),g0,t0,h1,(),())) a2→a2.hl=false→hl'=(a2.wt&&a2.df)∧rs'=if a2.wt&&a2.df then 13 else a2.rs)→
      cE (((k0,s0,f0,(),((n0,w0,()),(x0,y0,()),o0,(),()),((z0,a0,()),(b0,c0,()),p0,(),()),(d0,e0,()),q0,()),(v1,z1,v0,(),b1,t1,(x1,w1,k1,()),h0,u1,(j0,i0,r0,()),s1,q1,a1,()),(n1,m1,(o1,p1),m0,u0,()),(c1,(),(),()),((),()),((),(),(),(),()),(d1,f1),(l0,i1),g0,t0,h1,(),()),((),(),j1,()),()) (((),()),()) (((k0,s0,f0,(),((n0,w0,()),(x0,y0,()),o0,(),()),((z0,a0,()),(b0,c0,()),p0,(),()),(d0,e0,()),q0,()),y.1,ld,(c1,(),(),()),((),()),((),(),(),(),()),([((16,()),(z.1.1,()),f1)],ownk),(wt',wtk),g0,hl',rs',(),()),((),(),j1,()),()) ():=fun ownk wt' wtk ld hl' rs' g1 g2 g3 g4 g5=>by
     refine ⟨fun a2 hR2 hh how=>?_,rfl⟩;obtain ⟨e1,e2⟩:=g5 a2 hR2 hh;obtain ⟨⟨hc2,sd12,sd22⟩,⟨hk2,hka2⟩,⟨lt2,lc2,lh2⟩,⟨mo2,mw2⟩,⟨ff2,fh2,frs2⟩,⟨cd2,cmn2,cth2,cn2,cf2⟩,sm2,df2,sr2⟩:=hR2;have mw2:mE l0=(if a2.wt=true then [(16,a2.ot)] else []):=mw2;have sm2:a2.sm=iN (n8 16 k0 584):=sm2;have hz2:z.1.1=a2.sm:=hx2.trans sm2.symm;refine ⟨⟨hc2,sd12,sd22⟩,⟨y1,y2.trans (by rw [hka2,hz2];rfl)⟩,⟨fun h=>g2 (e1.trans h),g3.trans lc2,g4.trans e1⟩,⟨?_,g1⟩,⟨ff2,e1,e2⟩,⟨cd2,cmn2,cth2,cn2,cf2⟩,sm2,df2,sr2⟩
     show [((16:Int),z.1.1)]= [(16,a2.sm)];rw [hz2]
   |have:=B'
    have hfin: ∀ (ownk:Nat) (wt':ca [.int .i64] [.int .u32]) (wtk:Nat) (ld:Sp.T fb) (hl':Bool) (rs':Int),mE wt'= []→(hl'=false→du ld.2.2.1.1)→ld.2.2.2.1=m0→ld.2.2.2.2.1=hl'→(∀a2,au 1 (((k0,s0,f0,(),((n0,w0,()),(x0,y0,()),o0,(),()),((z0,a0,()),(b0,c0,()),p0,(),()),(d0,e0,()),q0,()),(v1,z1,v0,(),b1,t1,(x1,w1,k1,()),h0,u1,(j0,i0,r0,()),s1,q1,a1,()),(n1,m1,(o1,p1),m0,u0,()),(c1,(),(),()),((),()),((),(),(),(),()),(d1,f1),(l0,i1),g0,t0,h1,(),())) a2→a2.hl=false→hl'=(a2.wt&&a2.df)∧rs'=if a2.wt&&a2.df then 13 else a2.rs)→
      de (((k0,s0,f0,(),((n0,w0,()),(x0,y0,()),o0,(),()),((z0,a0,()),(b0,c0,()),p0,(),()),(d0,e0,()),q0,()),(v1,z1,v0,(),b1,t1,(x1,w1,k1,()),h0,u1,(j0,i0,r0,()),s1,q1,a1,()),(n1,m1,(o1,p1),m0,u0,()),(c1,(),(),()),((),()),((),(),(),(),()),(d1,f1),(l0,i1),g0,t0,h1,(),()),((),(),j1,()),()) (((),()),()) (((k0,s0,f0,(),((n0,w0,()),(x0,y0,()),o0,(),()),((z0,a0,()),(b0,c0,()),p0,(),()),(d0,e0,()),q0,()),y.1,ld,(c1,(),(),()),((),()),((),(),(),(),()),([((16,()),(z.1.1,()),f1)],ownk),(wt',wtk),g0,hl',rs',(),()),((),(),j1,()),()) ():=fun ownk wt' wtk ld hl' rs' g1 g2 g3 g4 g5=>by
     refine ⟨fun a2 hR2 hh how=>?_,rfl⟩;obtain ⟨e1,e2⟩:=g5 a2 hR2 hh;obtain ⟨⟨hc2,sd12,sd22⟩,⟨hk2,hka2⟩,⟨lt2,lc2,lh2⟩,⟨mo2,mw2⟩,⟨ff2,fh2,frs2⟩,⟨cd2,cmn2,cth2,cn2,cf2⟩,sm2,df2,sr2⟩:=hR2;have mw2:mE l0=(if a2.wt=true then [(16,a2.ot)] else []):=mw2;have sm2:a2.sm=iN (n8 16 k0 584):=sm2;have hz2:z.1.1=a2.sm:=hx2.trans sm2.symm;refine ⟨⟨hc2,sd12,sd22⟩,⟨y1,y2.trans (by rw [hka2,hz2];rfl)⟩,⟨fun h=>g2 (e1.trans h),g3.trans lc2,g4.trans e1⟩,⟨?_,g1⟩,⟨ff2,e1,e2⟩,⟨cd2,cmn2,cth2,cn2,cf2⟩,sm2,df2,sr2⟩
     show [((16:Int),z.1.1)]= [(16,a2.sm)];rw [hz2]
  have hph:t0=false:=fh.trans hl;refine ⟨fun r hr=>⟨fun r1 hr1=>⟨fun hne=>⟨fun k=>?_,fun k=>⟨?_,fun l q hq=>?_⟩⟩,fun heq=>?_⟩,fun k=>?_⟩,fun hn=>?_⟩
  ·rw [hph] at k;cases k
  ·exact (show u0=false by rw [lh,hl])
  ·obtain ⟨l1,l2⟩:=(show l.1.2.2.2.1=m0∧l.1.2.2.2.2.1=true from hq);cases hwt:a.wt with
   |false=>
    rw [hwt] at mw;rw [lT mw] at hr;cases hr
   |true=>
    rw [hwt] at mw;obtain ⟨c,hwc⟩:=sA mw;have hD:mE (nW l0 16)= []:=by rw [hwc];rfl
    rw [hwc] at hr;cases hr;cases hr1;refine hfin _ _ _ l.1 true 13 hD (fun h=>by cases h) l1 l2 fun a2 hR2 hh=>?_
    obtain ⟨⟨hc2,sd12,sd22⟩,⟨hk2,hka2⟩,⟨lt2,lc2,lh2⟩,⟨mo2,mw2⟩,⟨ff2,fh2,frs2⟩,⟨cd2,cmn2,cth2,cn2,cf2⟩,sm2,df2,sr2⟩:=hR2;have mw2:mE l0=(if a2.wt=true then [(16,a2.ot)] else []):=mw2;have sm2:a2.sm=iN (n8 16 k0 584):=sm2;have hw2:a2.wt=true:=by
     cases k2:a2.wt with
     |true=>rfl
     |false=>rw [k2] at mw2;exact absurd (lT mw2) (by rw [hwc];simp)
    rw [hw2] at mw2;have ho2:a2.ot=a.ot:=by
     have k3:=mw2.symm.trans mw;simp only [if_true,List.cons.injEq,Prod.mk.injEq] at k3;exact k3.1.2
    have hd2:a2.df=true:=df2.2 (by rw [ho2,←hx2.trans sm2.symm];exact hne)
    rw [hw2,hd2];exact ⟨rfl,rfl⟩
  ·cases hwt:a.wt with
   |false=>
    rw [hwt] at mw;rw [lT mw] at hr;cases hr
   |true=>
    rw [hwt] at mw;obtain ⟨c,hwc⟩:=sA mw;have hD:mE (nW l0 16)= []:=by rw [hwc];rfl
    rw [hwc] at hr;cases hr;cases hr1;refine hfin _ _ _ (n1,m1,(o1,p1),m0,u0,()) t0 h1 hD (fun _=>lt hl) rfl (lh.trans fh.symm) fun a2 hR2 hh=>?_;obtain ⟨⟨hc2,sd12,sd22⟩,⟨hk2,hka2⟩,⟨lt2,lc2,lh2⟩,⟨mo2,mw2⟩,⟨ff2,fh2,frs2⟩,⟨cd2,cmn2,cth2,cn2,cf2⟩,sm2,df2,sr2⟩:=hR2;have mw2:mE l0=(if a2.wt=true then [(16,a2.ot)] else []):=mw2;have sm2:a2.sm=iN (n8 16 k0 584):=sm2;have hw2:a2.wt=true:=by
     cases k2:a2.wt with
     |true=>rfl
     |false=>rw [k2] at mw2;exact absurd (lT mw2) (by rw [hwc];simp)
    rw [hw2] at mw2;have ho2:a2.ot=a.ot:=by
     have k3:=mw2.symm.trans mw;simp only [if_true,List.cons.injEq,Prod.mk.injEq] at k3;exact k3.1.2
    have hd2:a2.df=false:=by
     cases k2:a2.df with
     |false=>rfl
     |true=>exact absurd (by rw [ho2,←hx2.trans sm2.symm];exact heq) (df2.1 k2)
    rw [hd2,Bool.and_false];exact ⟨hph,frs2⟩
  ·rw [eG] at k;cases k
  ·have hw0:l0= []:=by
    cases hwt:a.wt with
    |false=>rw [hwt] at mw;exact lT mw
    |true=>
     rw [hwt] at mw;obtain ⟨c,hwc⟩:=sA mw;rw [hwc] at hn;cases hn
   refine hfin _ l0 i1 (n1,m1,(o1,p1),m0,u0,()) t0 h1 (by rw [hw0];rfl) (fun _=>lt hl) rfl (lh.trans fh.symm) fun a2 hR2 hh=>?_
   obtain ⟨⟨hc2,sd12,sd22⟩,⟨hk2,hka2⟩,⟨lt2,lc2,lh2⟩,⟨mo2,mw2⟩,⟨ff2,fh2,frs2⟩,⟨cd2,cmn2,cth2,cn2,cf2⟩,sm2,df2,sr2⟩:=hR2;have mw2:mE l0=(if a2.wt=true then [(16,a2.ot)] else []):=mw2;have sm2:a2.sm=iN (n8 16 k0 584):=sm2;have hw2:a2.wt=false:=by
    cases k2:a2.wt with
    |false=>rfl
    |true=>
     rw [k2] at mw2;have mw2:mE l0= [(16,a2.ot)]:=mw2;rw [hw0] at mw2;cases mw2
   rw [hw2,Bool.false_and];exact ⟨hph,frs2⟩
theorem Ku:ab Tryz.prog 80 Ab:=zq.1
theorem Kk:ab Tryz.prog 80 zm:=zq.2
noncomputable def xC:=EU.add 80 Ku
def tX(x:(aQ×aA×Unit))(y:(Unit)):Prop:= ∃a,au 0 x.1 a∧a.oA∧a.hl=false∧a.k.st≠2
def fu(x:(aQ×aA×Unit))(y:(Unit))(x':(aQ×aA×Unit))(z:(Unit)):Prop:= ∀a,au 0 x.1 a→a.oA→au 0 x'.1 a.set∧x'.2.1.2.2.1=x.2.1.2.2.1
noncomputable def A7:MC:=qC [true,true] [an,dp] [] [] tX fu
abbrev pC:Type:=Nat×an.T
abbrev Da:Type:=Sp.Hs [an,dp]
abbrev uk:Type:=Sp.Ts [an,dp]
abbrev gJ:Type:=an.T
def Ww(a:gJ):Sp.Ts [Sp.mp [Kd.int IntKind.i64] false [Kd.int IntKind.u32] false,Sp.int IntKind.i64,Sp.bool,Sp.int IntKind.i64,Sp.cl (Lc.int IntKind.i64 (0:Int))]:=a.2.2.2.2.2.2.2
def Ly(a:gJ):Sp.bool.T:=(Ww a).2.2.1
def CE:Prop:=Q6 Qc1 (True∧Q6r (Yy mQ (QC mQ True True True))) (True∧Q6q) mQ (QC JY Q6q True Q6q)
def ZS(a b:Prop):Prop:=uI (cR CE mQ) True a b
def tn(a:gJ):nM:=(Ww a).2.2.2.1
def sW(a b:gJ):Prop:=mV (Q6r (Q5 ((Ww a).2.1=(Ww b).2.1) (Ly a=Ly b) (tn a=tn b) lG))
def Qdr(a b:pC):Prop:=sW a.2 b.2
def QdF(a:gJ):(Sp.mp [Kd.int IntKind.i64] false [Kd.int IntKind.u32] false).T:=a.2.2.2.2.2.2.1
def QdE(a:fb.T)(b:gJ)(c:ZI):N6:=(a,(b.2.2.2.1.1,Qj),Qk,Mz,((QdF b).1,(QdF b).2),((Ww b).1.1,(Ww b).1.2),(Ww b).2.1,c)
def WE(a:jn)(b:gJ)(c:fb.T)(d:jq):jq:=((a.1,b.2.1,QdE c b (Ly b,tn b,Qk)),((),(),d.2.1.2.2.1,()),())
def Qdt(a:jn)(b:pC)(c:fb.T)(d:jq):jq:=WE a b.2 c d
def Qdq(a:fb.T):nM:=RP a.2.2.2.1
def O5(a:gJ):Prop:=H9 (a.2.2.1,()) ()
def ON(a b:pC)(c:Prop)(d:Int)(e:jq):Prop:=MG (Q7 mJ (Qdr a b) c) (JL d e.1 b.1 b.2) (1:Nat) b.1 a.1
def wR(a:pC)(b:gy)(c d e f:Prop):Prop:=Q1a (Qdr a a) (H9 (b.1,()) ()) (DJ b.1.2.2.2.1) (Int.tmod (Qdq b.1) (16:Int)==(0:Int)) (Qn c (Qdq b.1=(16:Int)) d e) f
def QdG(a:Prop):Prop:=Qbc lG lG a
def M5(a b:pC)(c:gy)(d:jq):Prop:=ud a.2.2.1 b.2.2.1 (xR c.1 b.2.2.2.1 (QR (cR (a.2.2.2.2.1.1=b.2.2.2.2.1.1) lG) (Q1I (QdG lG) ((QdF a.2).1=(QdF b.2).1∧(QdF a.2).2=(QdF b.2).2) ((Ww a.2).1.1=(Ww b.2).1.1) ((Ww a.2).1.2=(Ww b.2).1.2) (Q7J (d.2.1.2.2.1=d.2.1.2.2.1)))))
def KT(a:uk)(b:pC)(c:jq)(d:pC):Prop:=MG (mJ∧nv a.1 b.2 (ya (Q7J (a.2.1.2.2.1=c.2.1.2.2.1)))) (JL (0:Int) c.1 b.1 b.2) (1:Nat) b.1 d.1
def Qdp(a:pC)(b:mF):Bool:=decide (a.2.2.2.1.2.2.2.1<b.1.1)
def M7(a:Bool)(b:pC)(c d e:Prop):Prop:=QK a (O5 b.2) (Qdr b b) (K5 (DJ b.2.2.2.1.2.2.2.1) (([]:List (Row uv×Row Db×Nat))= []) (xt (b.2.2.2.1,()) ((Qdq b.2.2.2.1,()),())) c) (qo d b.2.2.1 True e)
def gF(a:gy):Bool:=Int.tmod (Qdq a.1) (16:Int)==(0:Int)
noncomputable def xr:=EH.add 80 Kk
def tB(x:(bD×aA×Unit))(y:(Unit)):Prop:= ∃a,au 1 x.1 a∧a.oA∧a.hl=false∧a.k.st≠2
def fp(x:(bD×aA×Unit))(y:(Unit))(x':(bD×aA×Unit))(z:(Unit)):Prop:= ∀a,au 1 x.1 a→a.oA→au 1 x'.1 a.set∧x'.2.1.2.2.1=x.2.1.2.2.1
noncomputable def Bn:MC:=qC [true,true] [aS,dp] [] [] tB fp
abbrev MI:Type:=Nat×an.T
abbrev EZ:Type:=Sp.Hs [an,dp]
abbrev Ew:Type:=Sp.Ts [an,dp]
def Rm:Prop:=Q6r (QC Sa (Qn mJ mJ True JY) mJ True)
def QdI(a:uk)(b:pC)(c:jq)(d:pC):Prop:=MG (mJ∧od a.1 b.2 (ya (Q7J (a.2.1.2.2.1=c.2.1.2.2.1)))) (JL (1:Int) c.1 b.1 b.2) (1:Nat) b.1 d.1
theorem zE:ab Tryz.prog 37 A7∧ab Tryz.prog 37 Bn:=by
 refine ⟨?a,?b⟩
 case' a=>
  refine ah (cx Mx [128,79] jt xC) Tryz.func37 (by kernel_rfl) (by kernel_rfl) fun (x:(aQ×aA×Unit)) h (y:(Unit)) k hf hg hp=>⟨(fun bk=>match bk with|0=>some {S:=Nat×Sp.T an,st:=fun s=>⟨jk [(0,.v (.one (.ptr 0 0))),(0,.v (.one (.ptr 27 0)))] 63,aW false [an,dp] (s.2,((),(),x.2.1.2.2.1,()),()) ((((),(),(),(),(((),(),()),((),(),()),(),(),()),(((),(),()),((),(),()),(),(),()),((),(),()),(),()),((),(),(),(),(),(),((),(),(),()),(),(),((),(),(),()),(),(),(),()),((),(),(),(),(),()),((),(),(),()),((),()),((),(),(),(),()),(),(),(),(),(),(),()),((),(),(),()),()) 0 0⟩,ok:=fun s=>JL 0 x.1 s.1 s.2,mu:=fun s=>1-s.1,init:=(0,x.1)}|700001=>some {S:=Unit,st:=fun s=>⟨[.v (.one (.ptr 0 0))],[]⟩,ok:=fun s=>True,mu:=fun s=>0,init:=()}|_=>none),400,af (q:=W9 mJ (nv x.1 x.1 (ya (Q7J (x.2.1.2.2.1=x.2.1.2.2.1)))) (JL (0:Int) x.1 (0:Nat) x.1)∧(∀ (va:pC),kQ (JL (0:Int) x.1 va.1 va.2) (!(Ly va.2)) (kS (!(Ly va.2))) (K5 (O5 va.2) (bq va.2.1) (ik (va.2.1,()) ()) (∀ (vb:jn) (vc:Bm) (vd:mF) (ve:fU),Q3j Qc1 (eF (va.2.1,()) () vb vd) (M7 (Qdp va vd) va (∀ (vf:gy) (vg:lC) (vi:Gj) (vj:Je),Qa2 Q6n (gn (va.2.2.2.1,()) ((Qdq va.2.2.2.1,()),()) vf vi) (Qn (Qdr va va) (RA (Qdr va va) (Qdr va va) (([]:List (Row uv×Row Db×Nat))= []) (Jp (vf.1,()) ()) (DJ vf.1.2.2.2.1) (K7 (gF vf) (QcP vb.1 va.2.2.1) (Qdq vf.1=(16:Int)) (ox (Qdt vb va vf.1 x) mB) (∀ (vl:uk) (vm:Da) (vn:rI) (vo:so),ZS (cE (Qdt vb va vf.1 x) mB vl vn) (∃ (vp:pC),KT vl vp x va)) (∃ (vl:pC),ON va vl (wD vb.1 vl.2.1 (M5 va vl vf x)) (0:Int) x))) (Qdr va va) (wR va vf (QcP vb.1 va.2.2.1) (ox (Qdt vb va vf.1 x) mB) (∀ (vl:uk) (vm:Da) (vn:rI) (vo:so),ZS (cE (Qdt vb va vf.1 x) mB vl vn) (∃ (vp:pC),KT vl vp x va)) (∃ (vl:pC),ON va vl (wD vb.1 vl.2.1 (M5 va vl vf x)) (0:Int) x)))) (bq vb.1) (fu x y (Qdt vb va va.2.2.2.1 x) ())))) (Qn (Q18 (!(Ly va.2))) (aX va.2) True (fu x y (va.2,MA x) ())))) (by kernel_rfl) ?_⟩
  delta Q7 Q6 oO lG QC Qn Yy Q6r QbG cR Qs Q3 ya Qr mV Qk mJ Q4 Q5 mQ Q6q JY Q0 Sa uI mB Qj Qcy Qcv Qc1 CE Ww QK xz Q9l Mz Q10 dD Q3j qo K5 K7 Ly ZS tn RP RA Q2l Qa2 Q6n sW Qbc Qdr QdF kS Q1I Q1a QcP QR Q7J QdE WE Qdt H9 QdG Q18 Q2D QcT MA DJ kQ MG Qdq O5 ON wR M5 W9 KT Qdp M7 gF wD xR ud nv bq aV aX;obtain ⟨⟨⟨(p0:Int),(o0:Int),(t0:Int),⟨⟩,⟨⟨(n0:Int),u0,⟨⟩⟩,⟨(v0:Int),w0,⟨⟩⟩,(l0:Int),⟨⟩,⟨⟩⟩,⟨⟨(s0:Int),x0,⟨⟩⟩,⟨(y0:Int),z0,⟨⟩⟩,(k0:Int),⟨⟩,⟨⟩⟩,⟨(a0:Int),b0,⟨⟩⟩,(m0:Int),⟨⟩⟩,⟨(t1:Int),(x1:Int),(j0:Int),⟨⟩,(a1:Int),(q1:Int),⟨v1,(u1:Int),(i0:Int),⟨⟩⟩,(e0:Int),(r1:Int),⟨h0,(g0:Int),(c0:Int),⟨⟩⟩,(p1:Int),(o1:Int),(z1:Int),⟨⟩⟩,⟨(n2:Int),m2,⟨o2,p2⟩,(r0:Int),j1,⟨⟩⟩,⟨(b1:Int),⟨⟩,⟨⟩,⟨⟩⟩,⟨⟨⟩,⟨⟩⟩,⟨⟨⟩,⟨⟩,⟨⟩,⟨⟩,⟨⟩⟩,⟨m1,c1⟩,⟨n1,i1⟩,(d0:Int),q0,(e1:Int),⟨⟩,⟨⟩⟩,⟨⟨⟩,⟨⟩,q2,⟨⟩⟩,⟨⟩⟩:=x;obtain ⟨⟨⟨⟨⟩,⟨⟩,⟨⟩,⟨⟩,⟨⟨⟨⟩,⟨⟩,⟨⟩⟩,⟨⟨⟩,⟨⟩,⟨⟩⟩,⟨⟩,⟨⟩,⟨⟩⟩,⟨⟨⟨⟩,⟨⟩,⟨⟩⟩,⟨⟨⟩,⟨⟩,⟨⟩⟩,⟨⟩,⟨⟩,⟨⟩⟩,⟨⟨⟩,⟨⟩,⟨⟩⟩,⟨⟩,⟨⟩⟩,⟨⟨⟩,⟨⟩,⟨⟩,⟨⟩,⟨⟩,⟨⟩,⟨⟨⟩,⟨⟩,⟨⟩,⟨⟩⟩,⟨⟩,⟨⟩,⟨⟨⟩,⟨⟩,⟨⟩,⟨⟩⟩,⟨⟩,⟨⟩,⟨⟩,⟨⟩⟩,⟨⟨⟩,⟨⟩,⟨⟩,⟨⟩,⟨⟩,⟨⟩⟩,⟨⟨⟩,⟨⟩,⟨⟩,⟨⟩⟩,⟨⟨⟩,⟨⟩⟩,⟨⟨⟩,⟨⟩,⟨⟩,⟨⟩,⟨⟩⟩,⟨⟩,⟨⟩,⟨⟩,⟨⟩,⟨⟩,⟨⟩,⟨⟩⟩,⟨⟨⟩,⟨⟩,⟨⟩,⟨⟩⟩,⟨⟩⟩:=h;obtain ⟨⟨⟩⟩:=y;obtain ⟨⟨⟩⟩:=k
  try dsimp only
  have A':=()
 case' b=>
  refine ah (cx Mx [128,79] cX xr) Tryz.func37 (by kernel_rfl) (by kernel_rfl) fun (x:(bD×aA×Unit)) h (y:(Unit)) k hf hg hp=>⟨(fun bk=>match bk with|0=>some {S:=Nat×Sp.T aS,st:=fun s=>⟨jk [(0,.v (.one (.ptr 0 0))),(0,.v (.one (.ptr 27 0)))] 63,aW false [aS,dp] (s.2,((),(),x.2.1.2.2.1,()),()) ((((),(),(),(),(((),(),()),((),(),()),(),(),()),(((),(),()),((),(),()),(),(),()),((),(),()),(),()),((),(),(),(),(),(),((),(),(),()),(),(),((),(),(),()),(),(),(),()),((),(),(),(),(),()),((),(),(),()),((),()),((),(),(),(),()),(),(),(),(),(),(),()),((),(),(),()),()) 0 0⟩,ok:=fun s=>JL 1 x.1 s.1 s.2,mu:=fun s=>1-s.1,init:=(0,x.1)}|700001=>some {S:=Unit,st:=fun s=>⟨[.v (.one (.ptr 0 0))],[]⟩,ok:=fun s=>True,mu:=fun s=>0,init:=()}|_=>none),400,af (q:=W9 mJ (od x.1 x.1 (ya (Q7J (x.2.1.2.2.1=x.2.1.2.2.1)))) (JL (1:Int) x.1 (0:Nat) x.1)∧(∀ (va:MI),kQ (JL (1:Int) x.1 va.1 va.2) (!(Ly va.2)) (kS (!(Ly va.2))) (K5 (O5 va.2) (bF va.2.1) (ir (va.2.1,()) ()) (∀ (vb:Cb) (vc:BY) (vd:mF) (ve:fU),Q3j Rm (eh (va.2.1,()) () vb vd) (M7 (Qdp va vd) va (∀ (vf:gy) (vg:lC) (vi:Gj) (vj:Je),Qa2 Q6n (gn (va.2.2.2.1,()) ((Qdq va.2.2.2.1,()),()) vf vi) (Q5d (Qdr va va) (Qdr va va) (wR va vf (HT vb.1 va.2.2.1) (ov (Qdt vb va vf.1 x) mB) (∀ (vl:Ew) (vm:EZ) (vn:rI) (vo:so),ZS (de (Qdt vb va vf.1 x) mB vl vn) (∃ (vp:MI),QdI vl vp x va)) (∃ (vl:MI),ON va vl (wN vb.1 vl.2.1 (M5 va vl vf x)) (1:Int) x)) (Qdr va va) (wR va vf (HT vb.1 va.2.2.1) (ov (Qdt vb va vf.1 x) mB) (∀ (vl:Ew) (vm:EZ) (vn:rI) (vo:so),ZS (de (Qdt vb va vf.1 x) mB vl vn) (∃ (vp:MI),QdI vl vp x va)) (∃ (vl:MI),ON va vl (wN vb.1 vl.2.1 (M5 va vl vf x)) (1:Int) x)))) (bF vb.1) (fp x y (Qdt vb va va.2.2.2.1 x) ())))) (Qn (Q18 (!(Ly va.2))) (b7 va.2) True (fp x y (va.2,MA x) ())))) (by kernel_rfl) ?_⟩
  delta Q7 Q6 oO lG QC Qn Yy Q6r QbG cR Qs Q3 ya Qr mV Qk mJ Q4 Q5 mQ Q6q JY Q0 Sa uI mB Qj Qcy Qcv Qc1 CE Ww QK xz Q9l Mz Q10 dD Q3j qo K5 Ly Q5d ZS tn RP RA Q2l Qa2 Q6n sW Qbc Qdr QdF kS Q1I Q1a HT QR Q7J QdE WE Qdt H9 QdG Q18 Q2D QcT MA DJ kQ MG Qdq O5 ON wR M5 W9 Rm QdI Qdp M7 wN xR ud od bF aV b7;obtain ⟨⟨⟨(p0:Int),(o0:Int),(t0:Int),⟨⟩,⟨⟨(n0:Int),u0,⟨⟩⟩,⟨(v0:Int),w0,⟨⟩⟩,(l0:Int),⟨⟩,⟨⟩⟩,⟨⟨(s0:Int),x0,⟨⟩⟩,⟨(y0:Int),z0,⟨⟩⟩,(k0:Int),⟨⟩,⟨⟩⟩,⟨(a0:Int),b0,⟨⟩⟩,(m0:Int),⟨⟩⟩,⟨(t1:Int),(x1:Int),(j0:Int),⟨⟩,(a1:Int),(q1:Int),⟨v1,(u1:Int),(i0:Int),⟨⟩⟩,(e0:Int),(r1:Int),⟨h0,(g0:Int),(c0:Int),⟨⟩⟩,(p1:Int),(o1:Int),(z1:Int),⟨⟩⟩,⟨(n2:Int),m2,⟨o2,p2⟩,(r0:Int),j1,⟨⟩⟩,⟨(b1:Int),⟨⟩,⟨⟩,⟨⟩⟩,⟨⟨⟩,⟨⟩⟩,⟨⟨⟩,⟨⟩,⟨⟩,⟨⟩,⟨⟩⟩,⟨m1,c1⟩,⟨n1,i1⟩,(d0:Int),q0,(e1:Int),⟨⟩,⟨⟩⟩,⟨⟨⟩,⟨⟩,q2,⟨⟩⟩,⟨⟩⟩:=x;obtain ⟨⟨⟨⟨⟩,⟨⟩,⟨⟩,⟨⟩,⟨⟨⟨⟩,⟨⟩,⟨⟩⟩,⟨⟨⟩,⟨⟩,⟨⟩⟩,⟨⟩,⟨⟩,⟨⟩⟩,⟨⟨⟨⟩,⟨⟩,⟨⟩⟩,⟨⟨⟩,⟨⟩,⟨⟩⟩,⟨⟩,⟨⟩,⟨⟩⟩,⟨⟨⟩,⟨⟩,⟨⟩⟩,⟨⟩,⟨⟩⟩,⟨⟨⟩,⟨⟩,⟨⟩,⟨⟩,⟨⟩,⟨⟩,⟨⟨⟩,⟨⟩,⟨⟩,⟨⟩⟩,⟨⟩,⟨⟩,⟨⟨⟩,⟨⟩,⟨⟩,⟨⟩⟩,⟨⟩,⟨⟩,⟨⟩,⟨⟩⟩,⟨⟨⟩,⟨⟩,⟨⟩,⟨⟩,⟨⟩,⟨⟩⟩,⟨⟨⟩,⟨⟩,⟨⟩,⟨⟩⟩,⟨⟨⟩,⟨⟩⟩,⟨⟨⟩,⟨⟩,⟨⟩,⟨⟩,⟨⟩⟩,⟨⟩,⟨⟩,⟨⟩,⟨⟩,⟨⟩,⟨⟩,⟨⟩⟩,⟨⟨⟩,⟨⟩,⟨⟩,⟨⟩⟩,⟨⟩⟩:=h;obtain ⟨⟨⟩⟩:=y;obtain ⟨⟨⟩⟩:=k
  try dsimp only
  have B':=()
 all_goals
  obtain ⟨a,hR,hS,hl,hst⟩:=hp;have hR':=hR;obtain ⟨⟨hc,sd1,sd2⟩,⟨hk,hka⟩,⟨lt,lc,lh⟩,⟨mo,mw⟩,⟨ff,fh,frs⟩,⟨cd,cmn,cth,cn,cf⟩,sm,df,sr⟩:=hR';have sd1:0≤p0:=sd1;have sd2:p0≤4294967295:=sd2;have lc:r0=a.cm:=lc;have mo:mE m1=(if a.ow=true then [(16,a.sm)] else []):=mo;have mw:mE n1=(if a.wt=true then [(16,a.ot)] else []):=mw;have lh:j1=a.hl:=lh;have ff:d0=a.far:=ff;have fh:q0=a.hl:=fh;have cd:o0=a.d:=cd
  first|(have:=A';have cmn:l0=a.mn:=cmn)|(have:=B';have cmn:k0=a.mn:=cmn)
  first|(have:=A';have cth:k0=a.th:=cth)|(have:=B';have cth:l0=a.th:=cth)
  have cn:m0=a.now:=cn;have cf:n0=a.F:=cf;have hks:j0=a.k.st:=by rw [←hka];rfl
  have hkak:e0=a.k.ak:=by rw [←hka];rfl
  have hkon:i0=a.k.on:=by rw [←hka];rfl
  have hkn:c0=(a.k.q.length:Int):=by
   rw [←hka];show _=((List.map mA (rQ h0 g0 c0)).length:Int);rw [List.length_map];exact jg hk.2.1.1
  have hcc:=hc;obtain ⟨⟨d1,d2⟩,⟨w1,w2⟩,f0,f1,hs,hF⟩:=hc;have f0:n7 n0 u0 v0 w0 l0:=f0;have f1:n7 s0 x0 y0 z0 k0:=f1;have hs:oN p0 m0 n0 a0 b0:=hs;have hF:s0=n0:=hF;obtain ⟨-,-,-,a4,a5⟩:=f0;obtain ⟨-,-,-,b4,b5⟩:=f1;obtain ⟨s1,s2,s3,s4,s5,s6,-⟩:=hs;obtain ⟨s8,s9,s10,s11⟩:=s1;have d1:0≤o0:=d1;have d2:o0≤8:=d2;have w1:1≤t0:=w1;have w2:t0≤16:=w2;obtain ⟨g1,g2,g3,g4,g5,g6⟩:=hS
  first
   |have:=A'
    have hse: ∀b:PA,au 0 (((p0,o0,t0,(),((n0,u0,()),(v0,w0,()),l0,(),()),((s0,x0,()),(y0,z0,()),k0,(),()),(a0,b0,()),m0,()),(t1,x1,j0,(),a1,q1,(v1,u1,i0,()),e0,r1,(h0,g0,c0,()),p1,o1,z1,()),(n2,m2,(o2,p2),r0,j1,()),(b1,(),(),()),((),()),((),(),(),(),()),(m1,c1),(n1,i1),d0,q0,e1,(),())) b→b.se=min (min l0 k0) m0-1:=fun b hb=>by
     have k1:l0=b.mn:=hb.2.2.2.2.2.1.2.1;have k2:k0=b.th:=hb.2.2.2.2.2.1.2.2.1;have k3:m0=b.now:=hb.2.2.2.2.2.1.2.2.2.1;unfold PA.se;rw [←k1,←k2,←k3]
     all_goals rfl
   |have:=B'
    have hse: ∀b:PA,au 1 (((p0,o0,t0,(),((n0,u0,()),(v0,w0,()),l0,(),()),((s0,x0,()),(y0,z0,()),k0,(),()),(a0,b0,()),m0,()),(t1,x1,j0,(),a1,q1,(v1,u1,i0,()),e0,r1,(h0,g0,c0,()),p1,o1,z1,()),(n2,m2,(o2,p2),r0,j1,()),(b1,(),(),()),((),()),((),(),(),(),()),(m1,c1),(n1,i1),d0,q0,e1,(),())) b→b.se=min (min l0 k0) m0-1:=fun b hb=>by
     have k1:k0=b.mn:=hb.2.2.2.2.2.1.2.1;have k2:l0=b.th:=hb.2.2.2.2.2.1.2.2.1;have k3:m0=b.now:=hb.2.2.2.2.2.1.2.2.2.1;unfold PA.se;rw [←k1,←k2,←k3];rw [Int.min_comm k0]
  first|(have:=A';have hcm: ∀b:PA,au 0 (((p0,o0,t0,(),((n0,u0,()),(v0,w0,()),l0,(),()),((s0,x0,()),(y0,z0,()),k0,(),()),(a0,b0,()),m0,()),(t1,x1,j0,(),a1,q1,(v1,u1,i0,()),e0,r1,(h0,g0,c0,()),p1,o1,z1,()),(n2,m2,(o2,p2),r0,j1,()),(b1,(),(),()),((),()),((),(),(),(),()),(m1,c1),(n1,i1),d0,q0,e1,(),())) b→b.cm=r0:=fun b hb=>hb.2.2.1.2.1.symm)|(have:=B';have hcm: ∀b:PA,au 1 (((p0,o0,t0,(),((n0,u0,()),(v0,w0,()),l0,(),()),((s0,x0,()),(y0,z0,()),k0,(),()),(a0,b0,()),m0,()),(t1,x1,j0,(),a1,q1,(v1,u1,i0,()),e0,r1,(h0,g0,c0,()),p1,o1,z1,()),(n2,m2,(o2,p2),r0,j1,()),(b1,(),(),()),((),()),((),(),(),(),()),(m1,c1),(n1,i1),d0,q0,e1,(),())) b→b.cm=r0:=fun b hb=>hb.2.2.1.2.1.symm)
  first|(have:=A';have hhl: ∀b:PA,au 0 (((p0,o0,t0,(),((n0,u0,()),(v0,w0,()),l0,(),()),((s0,x0,()),(y0,z0,()),k0,(),()),(a0,b0,()),m0,()),(t1,x1,j0,(),a1,q1,(v1,u1,i0,()),e0,r1,(h0,g0,c0,()),p1,o1,z1,()),(n2,m2,(o2,p2),r0,j1,()),(b1,(),(),()),((),()),((),(),(),(),()),(m1,c1),(n1,i1),d0,q0,e1,(),())) b→b.hl=false:=fun b hb=>(show b.hl=q0 from hb.2.2.2.2.1.2.1.symm).trans (fh.trans hl))|(have:=B';have hhl: ∀b:PA,au 1 (((p0,o0,t0,(),((n0,u0,()),(v0,w0,()),l0,(),()),((s0,x0,()),(y0,z0,()),k0,(),()),(a0,b0,()),m0,()),(t1,x1,j0,(),a1,q1,(v1,u1,i0,()),e0,r1,(h0,g0,c0,()),p1,o1,z1,()),(n2,m2,(o2,p2),r0,j1,()),(b1,(),(),()),((),()),((),(),(),(),()),(m1,c1),(n1,i1),d0,q0,e1,(),())) b→b.hl=false:=fun b hb=>(show b.hl=q0 from hb.2.2.2.2.1.2.1.symm).trans (fh.trans hl))
  have hsa:=hse a hR;simp only [cl];refine ⟨.inl ⟨rfl,rfl⟩,fun s hs=>?_⟩;obtain ⟨n,X⟩:=s;rcases hs with ⟨e,e2⟩|⟨e,hs⟩
  ·have e:n=0:=e;have e2:X=((p0,o0,t0,(),((n0,u0,()),(v0,w0,()),l0,(),()),((s0,x0,()),(y0,z0,()),k0,(),()),(a0,b0,()),m0,()),(t1,x1,j0,(),a1,q1,(v1,u1,i0,()),e0,r1,(h0,g0,c0,()),p1,o1,z1,()),(n2,m2,(o2,p2),r0,j1,()),(b1,(),(),()),((),()),((),(),(),(),()),(m1,c1),(n1,i1),d0,q0,e1,(),()):=e2;subst e e2;dsimp only;refine ⟨fun h1=>⟨h1,trivial,hcc,fun x z hx=>?_⟩,fun h1=>?_⟩
   ·obtain ⟨hx1,hx2⟩:=(show x.1=(p0,o0,t0,(),((n0,u0,()),(v0,w0,()),l0,(),()),((s0,x0,()),(y0,z0,()),k0,(),()),(a0,b0,()),m0,())∧z.1.1=min (min l0 k0) m0-1 from hx);simp only [hx1,hx2];refine ⟨fun h2=>have h2:r0<min (min l0 k0) m0-1:=h2;⟨trivial,by simp only [aL,aT,aU];omega,⟨lt hl,(show j1=false by rw [lh,hl]),rfl,(show-1≤r0 by omega),(show r0≤1000000 by omega)⟩,fun l q hl'=>?_⟩,fun h2 a2 hR2 hS2=>?_⟩
    ·obtain ⟨l1,l2,l3⟩:=(show du l.1.2.2.1.1∧l.1.2.2.2.1=r0+1∧l.1.2.2.2.2.1=false from hl')
     first|(have:=A';have hlt: ∀b:PA,au 0 (((p0,o0,t0,(),((n0,u0,()),(v0,w0,()),l0,(),()),((s0,x0,()),(y0,z0,()),k0,(),()),(a0,b0,()),m0,()),(t1,x1,j0,(),a1,q1,(v1,u1,i0,()),e0,r1,(h0,g0,c0,()),p1,o1,z1,()),(n2,m2,(o2,p2),r0,j1,()),(b1,(),(),()),((),()),((),(),(),(),()),(m1,c1),(n1,i1),d0,q0,e1,(),())) b→b.cm<b.se:=fun b hb=>by rw [hse b hb,hcm b hb];exact h2)|(have:=B';have hlt: ∀b:PA,au 1 (((p0,o0,t0,(),((n0,u0,()),(v0,w0,()),l0,(),()),((s0,x0,()),(y0,z0,()),k0,(),()),(a0,b0,()),m0,()),(t1,x1,j0,(),a1,q1,(v1,u1,i0,()),e0,r1,(h0,g0,c0,()),p1,o1,z1,()),(n2,m2,(o2,p2),r0,j1,()),(b1,(),(),()),((),()),((),(),(),(),()),(m1,c1),(n1,i1),d0,q0,e1,(),())) b→b.cm<b.se:=fun b hb=>by rw [hse b hb,hcm b hb];exact h2)
     first
      |have:=A'
       have hnew: ∀b:PA,au 0 (((p0,o0,t0,(),((n0,u0,()),(v0,w0,()),l0,(),()),((s0,x0,()),(y0,z0,()),k0,(),()),(a0,b0,()),m0,()),(t1,x1,j0,(),a1,q1,(v1,u1,i0,()),e0,r1,(h0,g0,c0,()),p1,o1,z1,()),(n2,m2,(o2,p2),r0,j1,()),(b1,(),(),()),((),()),((),(),(),(),()),(m1,c1),(n1,i1),d0,q0,e1,(),())) b→au 0 (((p0,o0,t0,(),((n0,u0,()),(v0,w0,()),l0,(),()),((s0,x0,()),(y0,z0,()),k0,(),()),(a0,b0,()),m0,()),(t1,x1,j0,(),a1,q1,(v1,u1,i0,()),e0,r1,(h0,g0,c0,()),p1,o1,z1,()),l.1,(b1,(),(),()),((),()),((),(),(),(),()),(m1,c1),(n1,i1),d0,q0,e1,(),())) {b with cm:=b.cm+1}:=fun b hb=>by
        have hb0:=hhl b hb;have hb1:=hcm b hb;obtain ⟨⟨hc2,sd12,sd22⟩,⟨hk2,hka2⟩,⟨lt2,lc2,lh2⟩,⟨mo2,mw2⟩,⟨ff2,fh2,frs2⟩,⟨cd2,cmn2,cth2,cn2,cf2⟩,sm2,df2,sr2⟩:=hb;exact ⟨⟨hc2,sd12,sd22⟩,⟨hk2,hka2⟩,⟨fun _=>l1,l2.trans (by rw [hb1]),l3.trans hb0.symm⟩,⟨mo2,mw2⟩,⟨ff2,fh2,frs2⟩,⟨cd2,cmn2,cth2,cn2,cf2⟩,sm2,df2,sr2⟩
      |have:=B'
       have hnew: ∀b:PA,au 1 (((p0,o0,t0,(),((n0,u0,()),(v0,w0,()),l0,(),()),((s0,x0,()),(y0,z0,()),k0,(),()),(a0,b0,()),m0,()),(t1,x1,j0,(),a1,q1,(v1,u1,i0,()),e0,r1,(h0,g0,c0,()),p1,o1,z1,()),(n2,m2,(o2,p2),r0,j1,()),(b1,(),(),()),((),()),((),(),(),(),()),(m1,c1),(n1,i1),d0,q0,e1,(),())) b→au 1 (((p0,o0,t0,(),((n0,u0,()),(v0,w0,()),l0,(),()),((s0,x0,()),(y0,z0,()),k0,(),()),(a0,b0,()),m0,()),(t1,x1,j0,(),a1,q1,(v1,u1,i0,()),e0,r1,(h0,g0,c0,()),p1,o1,z1,()),l.1,(b1,(),(),()),((),()),((),(),(),(),()),(m1,c1),(n1,i1),d0,q0,e1,(),())) {b with cm:=b.cm+1}:=fun b hb=>by
        have hb0:=hhl b hb;have hb1:=hcm b hb;obtain ⟨⟨hc2,sd12,sd22⟩,⟨hk2,hka2⟩,⟨lt2,lc2,lh2⟩,⟨mo2,mw2⟩,⟨ff2,fh2,frs2⟩,⟨cd2,cmn2,cth2,cn2,cf2⟩,sm2,df2,sr2⟩:=hb;exact ⟨⟨hc2,sd12,sd22⟩,⟨hk2,hka2⟩,⟨fun _=>l1,l2.trans (by rw [hb1]),l3.trans hb0.symm⟩,⟨mo2,mw2⟩,⟨ff2,fh2,frs2⟩,⟨cd2,cmn2,cth2,cn2,cf2⟩,sm2,df2,sr2⟩
     refine ⟨trivial,by rw [l2];simp only [aL,aT,aU];omega,fun h3=>?_,fun h3=>?_⟩
     ·have h3:Int.tmod (r0+1+1) 16=0:=by rw [←l2];exact h3
      rw [Int.tmod_eq_emod_of_nonneg (by omega)] at h3
      have h16:r0=14:=by omega
      obtain ⟨g7,g8⟩:=g5 (by omega)
      refine ⟨by rw [l2,h16];rfl,⟨{a with cm:=a.cm+1},hnew a hR,hl,g8,hst,g7,(show 16≤a.now by omega),g4⟩,fun y w u hy=>⟨(1,y.1),?_⟩⟩
      first|(have:=A';obtain ⟨y1,y2⟩:=(show (∀a2,au 0 (((p0,o0,t0,(),((n0,u0,()),(v0,w0,()),l0,(),()),((s0,x0,()),(y0,z0,()),k0,(),()),(a0,b0,()),m0,()),(t1,x1,j0,(),a1,q1,(v1,u1,i0,()),e0,r1,(h0,g0,c0,()),p1,o1,z1,()),l.1,(b1,(),(),()),((),()),((),(),(),(),()),(m1,c1),(n1,i1),d0,q0,e1,(),())) a2→a2.hl=false→a2.ow=false→au 0 y.1 a2.rep)∧y.2.1.2.2.1=q2 from hy))|(have:=B';obtain ⟨y1,y2⟩:=(show (∀a2,au 1 (((p0,o0,t0,(),((n0,u0,()),(v0,w0,()),l0,(),()),((s0,x0,()),(y0,z0,()),k0,(),()),(a0,b0,()),m0,()),(t1,x1,j0,(),a1,q1,(v1,u1,i0,()),e0,r1,(h0,g0,c0,()),p1,o1,z1,()),l.1,(b1,(),(),()),((),()),((),(),(),(),()),(m1,c1),(n1,i1),d0,q0,e1,(),())) a2→a2.hl=false→a2.ow=false→au 1 y.1 a2.rep)∧y.2.1.2.2.1=q2 from hy))
      dsimp only;simp only [cl];refine ⟨⟨y2,.inr ⟨rfl,fun a2 hR2 hS2 hh2=>⟨?_,hlt a2 hR2⟩⟩⟩,by decide⟩
      have k14:a2.cm=14:=(hcm a2 hR2).trans h16;rw [PA.Y6 (hlt a2 hR2) k14];have k15:=hnew a2 hR2;rw [k14] at k15;exact y1 _ k15 hh2 (hS2.2.2.2.2.1 k14).2
     ·refine ⟨(1,((p0,o0,t0,(),((n0,u0,()),(v0,w0,()),l0,(),()),((s0,x0,()),(y0,z0,()),k0,(),()),(a0,b0,()),m0,()),(t1,x1,j0,(),a1,q1,(v1,u1,i0,()),e0,r1,(h0,g0,c0,()),p1,o1,z1,()),l.1,(b1,(),(),()),((),()),((),(),(),(),()),(m1,c1),(n1,i1),d0,q0,e1,(),())),?_⟩;dsimp only;simp only [cl];refine ⟨.inr ⟨rfl,fun a2 hR2 hS2 hh2=>⟨?_,hlt a2 hR2⟩⟩,by decide⟩
      rw [PA.a4j (hlt a2 hR2) (fun k=>h3 (by rw [l2,←hcm a2 hR2,k];decide))]
      exact hnew a2 hR2
    ·rw [PA.a2L (by rw [hse a2 hR2,hcm a2 hR2];exact h2)]
     exact ⟨hR2,rfl⟩
   ·have h1:q0=true:=h1;rw [fh.trans hl] at h1;cases h1
  ·have e:n=1:=e;subst e;dsimp only;obtain ⟨hX,hlt⟩:=hs a hR ⟨g1,g2,g3,g4,g5,g6⟩ hl
   first|(have:=A';have hdone: ∀Y,Y=X→fu (((p0,o0,t0,(),((n0,u0,()),(v0,w0,()),l0,(),()),((s0,x0,()),(y0,z0,()),k0,(),()),(a0,b0,()),m0,()),(t1,x1,j0,(),a1,q1,(v1,u1,i0,()),e0,r1,(h0,g0,c0,()),p1,o1,z1,()),(n2,m2,(o2,p2),r0,j1,()),(b1,(),(),()),((),()),((),(),(),(),()),(m1,c1),(n1,i1),d0,q0,e1,(),()),((),(),q2,()),()) () (Y,((),(),q2,()),()) ():=fun Y hY a2 hR2 hS2=>⟨by rw [hY];exact (hs a2 hR2 hS2 (hhl a2 hR2)).1,rfl⟩)|(have:=B';have hdone: ∀Y,Y=X→fp (((p0,o0,t0,(),((n0,u0,()),(v0,w0,()),l0,(),()),((s0,x0,()),(y0,z0,()),k0,(),()),(a0,b0,()),m0,()),(t1,x1,j0,(),a1,q1,(v1,u1,i0,()),e0,r1,(h0,g0,c0,()),p1,o1,z1,()),(n2,m2,(o2,p2),r0,j1,()),(b1,(),(),()),((),()),((),(),(),(),()),(m1,c1),(n1,i1),d0,q0,e1,(),()),((),(),q2,()),()) () (Y,((),(),q2,()),()) ():=fun Y hY a2 hR2 hS2=>⟨by rw [hY];exact (hs a2 hR2 hS2 (hhl a2 hR2)).1,rfl⟩)
   refine ⟨fun h1=>⟨h1,trivial,hX.1.1,fun x z hx=>?_⟩,fun h1=>⟨h1,hdone _ rfl⟩⟩;obtain ⟨hx1,hx2⟩:=(show x.1=X.1∧z.1.1=min (min (cN X.1 0) (cN X.1 1)) (aJ X.1)-1 from hx);have hz:z.1.1=a.se:=by
    rw [hx2,←PA.a2k]
    first|(have:=A';have k1:cN X.1 0=a.set.mn:=hX.2.2.2.2.2.1.2.1)|(have:=B';have k1:cN X.1 1=a.set.mn:=hX.2.2.2.2.2.1.2.1)
    first|(have:=A';have k2:cN X.1 1=a.set.th:=hX.2.2.2.2.2.1.2.2.1)|(have:=B';have k2:cN X.1 0=a.set.th:=hX.2.2.2.2.2.1.2.2.1)
    have k3:aJ X.1=a.set.now:=hX.2.2.2.2.2.1.2.2.2.1;unfold PA.se;rw [←k1,←k2,←k3]
    first|(all_goals (have:=A';rfl))|(have:=B';rw [Int.min_comm (cN X.1 1)])
   have hXc:X.2.2.1.2.2.2.1=a.cm+1:=(show X.2.2.1.2.2.2.1=a.set.cm from hX.2.2.1.2.1).trans (PA.a3k hlt);refine ⟨fun h2=>?_,fun h2=>?_⟩
   ·have h2:a.cm+1<a.se:=by rw [←hXc,←hz];exact h2
    omega
   ·rw [hx1];exact hdone _ rfl
theorem KQ:ab Tryz.prog 37 A7:=zE.1
theorem KF:ab Tryz.prog 37 Bn:=zE.2
noncomputable def wW:=xC.add 37 KQ
noncomputable def xh:=xr.add 37 KF
end Go.Proofs.YtfdmjoddhjmokaaGreatDoor
