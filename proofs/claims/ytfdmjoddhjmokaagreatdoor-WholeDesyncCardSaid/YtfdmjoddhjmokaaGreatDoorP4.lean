/- Part of the proof of WholeDesync (see the last text). Conditions: none. Own work; printed by programs of mine. -/
import Derived.Test.YtfdmjoddhjmokaaGreatDoorP3
namespace Go.Proofs.YtfdmjoddhjmokaaGreatDoor
open Go.RowKit Rex
set_option linter.unusedVariables false
set_option linter.unusedSimpArgs false
set_option maxRecDepth 100000
theorem sqB {x M:Int}(h1: -M≤x)(h2:x≤M):0≤x*x∧x*x≤M*M:=by
 rcases Int.le_total 0 x with h|h
 ·exact ⟨Int.mul_nonneg h h,Int.mul_le_mul h2 h2 h (by omega)⟩
 ·have e:x*x=(-x)*(-x):=by rw [Int.neg_mul_neg]
  rw [e];exact ⟨Int.mul_nonneg (by omega) (by omega),Int.mul_le_mul (by omega) (by omega) (by omega) (by omega)⟩
abbrev a8a:Sp:= .pt 431 [.int .i64,.cl .aj]
abbrev xv:Type:=(Int×Unit×Unit)
noncomputable def BW:FC:=fun us=>match us with
 | [.v (.one (.int .i32 _ a)),.v (.one (.int .i32 _ b))]=>some (some ((-2147483648≤a∧a≤2147483647)∧(-2147483648≤b∧b≤2147483647)∧(-2147483648≤(a+b)∧(a+b)≤2147483647)),.v (.one (.int .i32 false (a+b))))
 |_=>none
def Q5W(a:Int):Int:=if (-2147483648:Int)<(if (2147483647:Int)<a then (2147483647:Int) else a) then (if (2147483647:Int)<a then (2147483647:Int) else a) else (-2147483648:Int)
theorem Sn(a:Int)(b:Int):goal ⟨Mx,Tryz.prog,jz.l,aF.l,B0,none,false,[134,200],none⟩ bK 400 Tryz.f196 [.v (.one (.int .i32 false a)),.v (.one (.int .i32 false b))] [] (fun r _=>dm mW r (.v (.one (.int .i32 false (a+b)))))=(Q6 (Qi a) (Qi b) (Qd a b) (aL IntKind.i32 (Q5W (a+b))) (Q5W (a+b)=a+b)):=by kernel_rfl
theorem UR:bf Tryz.prog 196 BW:=by
 refine bB (cx Mx [134,200] jz aF) Tryz.func196 (by kernel_rfl) (by kernel_rfl) ?_
 intro us p v h hp;unfold BW at h;split at h
 ·rename_i k0 a k1 b;cases h;have hp:(-2147483648≤a∧a≤2147483647)∧(-2147483648≤b∧b≤2147483647)∧(-2147483648≤(a+b)∧(a+b)≤2147483647):=hp;refine ⟨rfl,bK,400,[.v (.one (.int .i32 false a)),.v (.one (.int .i32 false b))],by simp [g9,dm,xn,ft,cC,oy,fX,mW],rfl,?_⟩
  rw [Sn];delta Q7 Q6 Qi Qd Q5W
  (repeat' (first|(refine And.intro ?_ ?_)|intro _))
  all_goals (try simp only [decide_eq_true_eq,decide_eq_false_iff_not] at*)
  all_goals (try simp only [aL,aT,aU])
  all_goals (repeat' split)
  all_goals first|omega|rfl|trivial
 ·cases h
noncomputable def Yr:FC:=Ry BW
theorem XM:bf Tryz.prog 196 Yr:=dP UR
noncomputable def zk:=jz.pu 196 XM
noncomputable def zQ:FC:=fun us=>match us with
 | [.v (.one (.int .i32 _ a)),.v (.one (.int .i32 _ b))]=>some (some ((-2147483648≤a∧a≤2147483647)∧(-2147483648≤b∧b≤2147483647)∧(-2147483648≤(a-b)∧(a-b)≤2147483647)),.v (.one (.int .i32 false (a-b))))
 |_=>none
theorem Tt(a:Int)(b:Int):goal ⟨Mx,Tryz.prog,zk.l,aF.l,B0,none,false,[134,200],none⟩ bK 400 Tryz.f199 [.v (.one (.int .i32 false a)),.v (.one (.int .i32 false b))] [] (fun r _=>dm mW r (.v (.one (.int .i32 false (a-b)))))=(Q6 (Qi a) (Qi b) (QS a b) (aL IntKind.i32 (Q5W (a-b))) (Q5W (a-b)=a-b)):=by kernel_rfl
theorem VA:bf Tryz.prog 199 zQ:=by
 refine bB (cx Mx [134,200] zk aF) Tryz.func199 (by kernel_rfl) (by kernel_rfl) ?_
 intro us p v h hp;unfold zQ at h;split at h
 ·rename_i k0 a k1 b;cases h;have hp:(-2147483648≤a∧a≤2147483647)∧(-2147483648≤b∧b≤2147483647)∧(-2147483648≤(a-b)∧(a-b)≤2147483647):=hp;refine ⟨rfl,bK,400,[.v (.one (.int .i32 false a)),.v (.one (.int .i32 false b))],by simp [g9,dm,xn,ft,cC,oy,fX,mW],rfl,?_⟩
  rw [Tt];delta Q7 Q6 Qi QS Q5W
  (repeat' (first|(refine And.intro ?_ ?_)|intro _))
  all_goals (try simp only [decide_eq_true_eq,decide_eq_false_iff_not] at*)
  all_goals (try simp only [aL,aT,aU])
  all_goals (repeat' split)
  all_goals first|omega|rfl|trivial
 ·cases h
noncomputable def Zk:FC:=Ry zQ
theorem YJ:bf Tryz.prog 199 Zk:=dP VA
noncomputable def zP:=zk.pu 199 YJ
noncomputable def Az:FC:=fun us=>match us with
 | [.v (.one (.int .i32 _ a)),.v (.one (.int .i32 _ b))]=>some (some (a=0∧(-2147483648≤b∧b≤2147483647)),.v (.one (.int .i32 false (0))))
 |_=>none
def Q5X(a:Int):Int:=a / (65536:Int)
theorem VN(a:Int)(b:Int):goal ⟨Mx,Tryz.prog,zP.l,aF.l,B0,none,false,[134,200],none⟩ bK 400 Tryz.f318 [.v (.one (.int .i32 false a)),.v (.one (.int .i32 false b))] [] (fun r _=>dm mW r (.v (.one (.int .i32 false (0)))))=(Q6 (Qi a) (Qi b) (Qi (a*b)) (aL IntKind.i32 (Q5W (Q5X (a*b)))) (oO (Q5W (Q5X (a*b))))):=by kernel_rfl
theorem SA:bf Tryz.prog 318 Az:=by
 refine bB (cx Mx [134,200] zP aF) Tryz.func318 (by kernel_rfl) (by kernel_rfl) ?_
 intro us p v h hp;unfold Az at h;split at h
 ·rename_i k0 a k1 b;cases h;have hp:a=0∧(-2147483648≤b∧b≤2147483647):=hp;refine ⟨rfl,bK,400,[.v (.one (.int .i32 false a)),.v (.one (.int .i32 false b))],by simp [g9,dm,xn,ft,cC,oy,fX,mW],rfl,?_⟩
  rw [VN];delta Q7 Q6 oO Qi Q5X Q5W;obtain ⟨h,h1,h2⟩:=hp;subst h;simp only [Int.zero_mul]
  (repeat' (first|(refine And.intro ?_ ?_)|intro _))
  all_goals (try simp only [decide_eq_true_eq,decide_eq_false_iff_not] at*)
  all_goals (try simp only [aL,aT,aU])
  all_goals (repeat' split)
  all_goals first|omega|rfl|trivial
 ·cases h
noncomputable def YB:FC:=Ry Az
theorem X8:bf Tryz.prog 318 YB:=dP SA
noncomputable def Ac:=zP.pu 318 X8
noncomputable def rL:FC:=fun us=>match us with
 | [.v (.one (.int .i64 _ n)),.v (.one (.int .i64 _ a)),.v (.one (.int .i64 _ b))]=>some (none,.v (.one (.bool false (decide (a≤n∧n≤b)))))
 |_=>none
theorem LD(n:Int)(a:Int)(b:Int):goal ⟨Mx,Tryz.prog,Ac.l,aF.l,B0,none,false,[],none⟩ bK 400 Tryz.f289 [.v (.one (.int .i64 false n)),.v (.one (.int .i64 false a)),.v (.one (.int .i64 false b))] [] (fun r _=>dm mW r (.v (.one (.bool false (decide (a≤n∧n≤b))))))=(Q0 (decide (a≤n)) (decide (n≤b)=decide (a≤n∧n≤b)) (false=decide (a≤n∧n≤b))):=by kernel_rfl
theorem La:bf Tryz.prog 289 rL:=by
 refine bB (cx Mx [] Ac aF) Tryz.func289 (by kernel_rfl) (by kernel_rfl) ?_
 intro us p v h hp;unfold rL at h;split at h
 ·rename_i k0 n k1 a k2 b;cases h;refine ⟨rfl,bK,400,[.v (.one (.int .i64 false n)),.v (.one (.int .i64 false a)),.v (.one (.int .i64 false b))],by simp [g9,dm,xn,ft,cC,oy,fX,mW],rfl,?_⟩
  rw [LD];delta Q3 Q4 Q0;clear hp
  (repeat' (first|(refine And.intro ?_ ?_)|intro _))
  all_goals (try (refine Bool.eq_iff_iff.2 ?_))
  all_goals (try simp only [decide_eq_true_eq,decide_eq_false_iff_not,beq_iff_eq,beq_eq_false_iff_ne,bne_iff_ne,bne_eq_false_iff_eq,ne_eq,Bool.not_eq_true',Bool.not_eq_false',←Bool.not_eq_true,Bool.true_eq_false,Bool.false_eq_true,Bool.and_eq_true,Bool.or_eq_true,false_iff,iff_false,true_iff,iff_true,not_true_eq_false,not_false_eq_true,and_true,true_and,aL,aT,aU] at*)
  all_goals (repeat' split)
  all_goals omega
 ·cases h
noncomputable def Rb:FC:=Ry rL
theorem Re:bf Tryz.prog 289 Rb:=dP La
noncomputable def rZ:=Ac.pu 289 Re
noncomputable def sx:FC:=fun us=>match us with
 | [.v (.agg [.int .i32 _ lx,.int .i32 _ ly,.int .i32 _ hx,.int .i32 _ hy]),.v (.agg [.int .i32 _ px,.int .i32 _ py])]=>some (none,.v (.one (.bool false (decide (lx≤px∧px≤hx∧ly≤py∧py≤hy)))))
 |_=>none
def Q5Y(a b c d e f:Int):Prop:=false=decide (a≤b∧b≤c∧d≤e∧e≤f)
theorem LK(lx:Int)(ly:Int)(hx:Int)(hy:Int)(px:Int)(py:Int):goal ⟨Mx,Tryz.prog,rZ.l,aF.l,B0,none,false,[],none⟩ bK 400 Tryz.f297 [.v (.agg [.int .i32 false lx,.int .i32 false ly,.int .i32 false hx,.int .i32 false hy]),.v (.agg [.int .i32 false px,.int .i32 false py])] [] (fun r _=>dm mW r (.v (.one (.bool false (decide (lx≤px∧px≤hx∧ly≤py∧py≤hy))))))=(Q0 (decide (lx≤px)) (Q0 (decide (px≤hx)) (Q0 (decide (ly≤py)) (decide (py≤hy)=decide (lx≤px∧px≤hx∧ly≤py∧py≤hy)) (Q5Y lx px hx ly py hy)) (Q5Y lx px hx ly py hy)) (Q5Y lx px hx ly py hy)):=by kernel_rfl
theorem Ki:bf Tryz.prog 297 sx:=by
 refine bB (cx Mx [] rZ aF) Tryz.func297 (by kernel_rfl) (by kernel_rfl) ?_
 intro us p v h hp;unfold sx at h;split at h
 ·rename_i k0 lx k1 ly k2 hx k3 hy k4 px k5 py;cases h;refine ⟨rfl,bK,400,[.v (.agg [.int .i32 false lx,.int .i32 false ly,.int .i32 false hx,.int .i32 false hy]),.v (.agg [.int .i32 false px,.int .i32 false py])],by simp [g9,dm,xn,ft,cC,oy,fX,mW],rfl,?_⟩
  rw [LK];delta Q3 Q4 Q0 Q5Y;clear hp
  (repeat' (first|(refine And.intro ?_ ?_)|intro _))
  all_goals (try (refine Bool.eq_iff_iff.2 ?_))
  all_goals (try simp only [decide_eq_true_eq,decide_eq_false_iff_not,beq_iff_eq,beq_eq_false_iff_ne,bne_iff_ne,bne_eq_false_iff_eq,ne_eq,Bool.not_eq_true',Bool.not_eq_false',←Bool.not_eq_true,Bool.true_eq_false,Bool.false_eq_true,Bool.and_eq_true,Bool.or_eq_true,false_iff,iff_false,true_iff,iff_true,not_true_eq_false,not_false_eq_true,and_true,true_and,aL,aT,aU] at*)
  all_goals (repeat' split)
  all_goals omega
 ·cases h
noncomputable def OO:FC:=Ry sx
theorem P3:bf Tryz.prog 297 OO:=dP Ki
noncomputable def sy:=rZ.pu 297 P3
noncomputable def Jn:FC:=fun us=>match us with
 | []=>some (none,.v (.agg [.int .i32 true (-4194304),.int .i32 true (-4194304),.int .i32 true (4194304),.int .i32 true (4194304)]))
 |_=>none
theorem PG:goal ⟨Mx,Tryz.prog,sy.l,aF.l,B0,none,false,[],none⟩ bK 400 Tryz.f298 [] [] (fun r _=>dm mW r (.v (.agg [.int .i32 true (-4194304),.int .i32 true (-4194304),.int .i32 true (4194304),.int .i32 true (4194304)])))=(Qn ((-4194304:Int)=(-4194304:Int)) ((-4194304:Int)=(-4194304:Int)) ((4194304:Int)=(4194304:Int)) ((4194304:Int)=(4194304:Int))):=by kernel_rfl
theorem V9:bf Tryz.prog 298 Jn:=by
 refine bB (cx Mx [] sy aF) Tryz.func298 (by kernel_rfl) (by kernel_rfl) ?_
 intro us p v h hp;unfold Jn at h;split at h
 ·skip
  cases h;refine ⟨rfl,bK,400,[],by simp [g9,dm,xn,ft,cC,oy,fX,mW],rfl,?_⟩
  rw [PG];delta Q7 Qn;clear hp;omega
 ·cases h
noncomputable def vz:=sy.pu 298 V9
noncomputable def FJ:FC:=fun us=>match us with
 | [.v (.agg [.int .i32 _ ax,.int .i32 _ ay]),.v (.agg [.int .i32 _ bx,.int .i32 _ by_])]=>some (some ((-2147483648≤ax∧ax≤2147483647)∧(-2147483648≤ay∧ay≤2147483647)∧(-2147483648≤bx∧bx≤2147483647)∧(-2147483648≤by_∧by_≤2147483647)∧(-2147483648≤(ax+bx)∧(ax+bx)≤2147483647)∧(-2147483648≤(ay+by_)∧(ay+by_)≤2147483647)),.v (.agg [.int .i32 false (ax+bx),.int .i32 false (ay+by_)]))
 |_=>none
def Sl(a:Int):Prop:=(-2147483648:Int)≤a
def CB(a:Int):Prop:=a≤(2147483647:Int)
def Q60(a b c d e f:Prop):Prop:=Q5d (a∧b) c d e f
def Q5Z(a b:Int):Prop:=Q60 (Sl a) (CB a) (Sl b) (CB b) (Sl (a+b)) (CB (a+b))
theorem Yi(ax:Int)(ay:Int)(bx:Int)(by_:Int):goal ⟨Mx,Tryz.prog,vz.l,aF.l,B0,none,false,[195],none⟩ bK 400 Tryz.f131 [.v (.agg [.int .i32 false ax,.int .i32 false ay]),.v (.agg [.int .i32 false bx,.int .i32 false by_])] [] (fun r _=>dm mW r (.v (.agg [.int .i32 false (ax+bx),.int .i32 false (ay+by_)])))=(Qn (Q5Z ax bx) (Q5Z ay by_) (ax+bx=ax+bx) (ay+by_=ay+by_)):=by kernel_rfl
theorem Zu:bf Tryz.prog 131 FJ:=by
 refine bB (cx Mx [195] vz aF) Tryz.func131 (by kernel_rfl) (by kernel_rfl) ?_
 intro us p v h hp;unfold FJ at h;split at h
 ·rename_i k0 ax k1 ay k2 bx k3 by_;cases h;have hp:(-2147483648≤ax∧ax≤2147483647)∧(-2147483648≤ay∧ay≤2147483647)∧(-2147483648≤bx∧bx≤2147483647)∧(-2147483648≤by_∧by_≤2147483647)∧(-2147483648≤(ax+bx)∧(ax+bx)≤2147483647)∧(-2147483648≤(ay+by_)∧(ay+by_)≤2147483647):=hp;refine ⟨rfl,bK,400,[.v (.agg [.int .i32 false ax,.int .i32 false ay]),.v (.agg [.int .i32 false bx,.int .i32 false by_])],by simp [g9,dm,xn,ft,cC,oy,fX,mW],rfl,?_⟩
  rw [Yi];delta Q7 Qn Q5d Sl CB Q60 Q5Z
  (repeat' (first|(refine And.intro ?_ ?_)|intro _))
  all_goals (try simp only [decide_eq_true_eq,decide_eq_false_iff_not] at*)
  all_goals (try simp only [aL,aT,aU])
  all_goals (repeat' split)
  all_goals first|omega|rfl|trivial
 ·cases h
noncomputable def a4c:FC:=Ry FJ
theorem a2H:bf Tryz.prog 131 a4c:=dP Zu
noncomputable def Gy:=vz.pu 131 a2H
noncomputable def GN:FC:=fun us=>match us with
 | [.v (.agg [.int .i32 _ ax,.int .i32 _ ay]),.v (.agg [.int .i32 _ bx,.int .i32 _ by_])]=>some (some ((-2147483648≤ax∧ax≤2147483647)∧(-2147483648≤ay∧ay≤2147483647)∧(-2147483648≤bx∧bx≤2147483647)∧(-2147483648≤by_∧by_≤2147483647)∧(-2147483648≤(ax-bx)∧(ax-bx)≤2147483647)∧(-2147483648≤(ay-by_)∧(ay-by_)≤2147483647)),.v (.agg [.int .i32 false (ax-bx),.int .i32 false (ay-by_)]))
 |_=>none
theorem Zp(ax:Int)(ay:Int)(bx:Int)(by_:Int):goal ⟨Mx,Tryz.prog,Gy.l,aF.l,B0,none,false,[195],none⟩ bK 400 Tryz.f133 [.v (.agg [.int .i32 false ax,.int .i32 false ay]),.v (.agg [.int .i32 false bx,.int .i32 false by_])] [] (fun r _=>dm mW r (.v (.agg [.int .i32 false (ax-bx),.int .i32 false (ay-by_)])))=(Qn (Qz (Sl ax) (CB ax) (Sl bx∧CB bx) (Sl (ax-bx)∧CB (ax-bx))) (Q60 (Sl ay) (CB ay) (Sl by_) (CB by_) (Sl (ay-by_)) (CB (ay-by_))) (ax-bx=ax-bx) (ay-by_=ay-by_)):=by kernel_rfl
theorem YO:bf Tryz.prog 133 GN:=by
 refine bB (cx Mx [195] Gy aF) Tryz.func133 (by kernel_rfl) (by kernel_rfl) ?_
 intro us p v h hp;unfold GN at h;split at h
 ·rename_i k0 ax k1 ay k2 bx k3 by_;cases h;have hp:(-2147483648≤ax∧ax≤2147483647)∧(-2147483648≤ay∧ay≤2147483647)∧(-2147483648≤bx∧bx≤2147483647)∧(-2147483648≤by_∧by_≤2147483647)∧(-2147483648≤(ax-bx)∧(ax-bx)≤2147483647)∧(-2147483648≤(ay-by_)∧(ay-by_)≤2147483647):=hp;refine ⟨rfl,bK,400,[.v (.agg [.int .i32 false ax,.int .i32 false ay]),.v (.agg [.int .i32 false bx,.int .i32 false by_])],by simp [g9,dm,xn,ft,cC,oy,fX,mW],rfl,?_⟩
  rw [Zp];delta Q7 Qn Q5d Qz Sl CB Q60
  (repeat' (first|(refine And.intro ?_ ?_)|intro _))
  all_goals (try simp only [decide_eq_true_eq,decide_eq_false_iff_not] at*)
  all_goals (try simp only [aL,aT,aU])
  all_goals (repeat' split)
  all_goals first|omega|rfl|trivial
 ·cases h
noncomputable def a2d:FC:=Ry GN
theorem a4d:bf Tryz.prog 133 a2d:=dP YO
noncomputable def FK:=Gy.pu 133 a4d
noncomputable def N9:FC:=fun us=>match us with
 | []=>some (none,.v (.agg [.int .i32 true (-3932160),.int .i32 true (-3932160),.int .i32 true (3932160),.int .i32 true (3932160)]))
 |_=>none
def Q63:Prop:=((-2147483648:Int)≤(262144:Int))∧((262144:Int)≤(2147483647:Int))
theorem Uj:goal ⟨Mx,Tryz.prog,FK.l,aF.l,B0,none,false,[316,322],none⟩ bK 400 Tryz.f306 [] [] (fun r _=>dm mW r (.v (.agg [.int .i32 true (-3932160),.int .i32 true (-3932160),.int .i32 true (3932160),.int .i32 true (3932160)])))=(Q60 ((-2147483648:Int)≤(-4194304:Int)) ((-4194304:Int)≤(2147483647:Int)) ((-2147483648:Int)≤(-4194304:Int)) ((-4194304:Int)≤(2147483647:Int)) Q63 (Q60 ((-2147483648:Int)≤(262144:Int)) ((262144:Int)≤(2147483647:Int)) ((-2147483648:Int)≤(-3932160:Int)) ((-3932160:Int)≤(2147483647:Int)) ((-2147483648:Int)≤(-3932160:Int)) ((-3932160:Int)≤(2147483647:Int)))∧Q2B (Qz ((-2147483648:Int)≤(4194304:Int)) ((4194304:Int)≤(2147483647:Int)) (((-2147483648:Int)≤(4194304:Int))∧((4194304:Int)≤(2147483647:Int))) (RA (((-2147483648:Int)≤(262144:Int))∧((262144:Int)≤(2147483647:Int))) Q63 ((-2147483648:Int)≤(3932160:Int)) ((3932160:Int)≤(2147483647:Int)) ((-2147483648:Int)≤(3932160:Int)) ((3932160:Int)≤(2147483647:Int)))) ((-3932160:Int)=(-3932160:Int)) (-3932160:Int) (-3932160:Int) ((3932160:Int)=(3932160:Int)) ((3932160:Int)=(3932160:Int))):=by kernel_rfl
theorem Xd:bf Tryz.prog 306 N9:=by
 refine bB (cx Mx [316,322] FK aF) Tryz.func306 (by kernel_rfl) (by kernel_rfl) ?_
 intro us p v h hp;unfold N9 at h;split at h
 ·skip
  cases h;refine ⟨rfl,bK,400,[],by simp [g9,dm,xn,ft,cC,oy,fX,mW],rfl,?_⟩
  rw [Uj];delta Q7 Q6 Qn Q2B Q5d RA Qz Q60 Q63;clear hp;omega
 ·cases h
noncomputable def Bl:=FK.pu 306 Xd
noncomputable def AD:FC:=fun us=>match us with
 | [.v (.one (.int .i32 _ x)),.v (.one (.int .i32 _ y)),.v (.one (.int .i32 _ rr))]=>some (some ((-16777216≤x∧x≤16777216)∧(-16777216≤y∧y≤16777216)∧(-16777216≤rr∧rr≤16777216)),.v (.one (.bool false (decide (0≤rr∧x*x+y*y≤rr*rr)))))
 |_=>none
def Q64(a b c d:Int):Bool:=decide ((0:Int)≤a∧(b+c)≤d)
theorem SI(x:Int)(y:Int)(rr:Int):goal ⟨Mx,Tryz.prog,Bl.l,aF.l,B0,none,false,[198],none⟩ bK 400 Tryz.f312 [.v (.one (.int .i32 false x)),.v (.one (.int .i32 false y)),.v (.one (.int .i32 false rr))] [] (fun r _=>dm mW r (.v (.one (.bool false (decide (0≤rr∧x*x+y*y≤rr*rr))))))=(QK (decide ((0:Int)≤rr)) (Qi x) (Qi (x*x)) (H8 (Q4P (x*x)) (Qi y) (Qi (y*y)) (Q4P (y*y)) (Q4P (x*x+y*y)) (Qi rr) (Qi (rr*rr)) (Q4P (rr*rr)) (decide ((x*x+y*y)≤(rr*rr))=Q64 rr (x*x) (y*y) (rr*rr))) (false=Q64 rr (x*x) (y*y) (rr*rr))):=by kernel_rfl
theorem VS:bf Tryz.prog 312 AD:=by
 refine bB (cx Mx [198] Bl aF) Tryz.func312 (by kernel_rfl) (by kernel_rfl) ?_
 intro us p v h hp;unfold AD at h;split at h
 ·rename_i k0 x k1 y k2 rr;cases h;have hp:(-16777216≤x∧x≤16777216)∧(-16777216≤y∧y≤16777216)∧(-16777216≤rr∧rr≤16777216):=hp;refine ⟨rfl,bK,400,[.v (.one (.int .i32 false x)),.v (.one (.int .i32 false y)),.v (.one (.int .i32 false rr))],by simp [g9,dm,xn,ft,cC,oy,fX,mW],rfl,?_⟩
  rw [SI];delta Q7 Q6 Q3 Q4 Q0 QK Qi H8 Q4P Q64;obtain ⟨hx,hy,hr⟩:=hp;have q1:=sqB (x:=x) (M:=16777216) (by omega) (by omega)
  have q2:=sqB (x:=y) (M:=16777216) (by omega) (by omega)
  have q3:=sqB (x:=rr) (M:=16777216) (by omega) (by omega)
  generalize x*x=X at*;generalize y*y=Y at*;generalize rr*rr=R at*
  (repeat' (first|(refine And.intro ?_ ?_)|intro _))
  all_goals (try (refine Bool.eq_iff_iff.2 ?_))
  all_goals (try simp only [decide_eq_true_eq,decide_eq_false_iff_not,beq_iff_eq,beq_eq_false_iff_ne,bne_iff_ne,bne_eq_false_iff_eq,ne_eq,Bool.not_eq_true',Bool.not_eq_false',←Bool.not_eq_true,Bool.true_eq_false,Bool.false_eq_true,Bool.and_eq_true,Bool.or_eq_true,false_iff,iff_false,true_iff,iff_true,not_true_eq_false,not_false_eq_true,and_true,true_and,aL,aT,aU] at*)
  all_goals (repeat' split)
  all_goals omega
 ·cases h
noncomputable def Z7:FC:=Ry AD
theorem XL:bf Tryz.prog 312 Z7:=dP VS
noncomputable def AQ:=Bl.pu 312 XL
noncomputable def wP:FC:=fun us=>match us with
 | [.v (.agg [.int .i32 _ px,.int .i32 _ py]),.v (.one (.int .i32 _ rr)),.v (.agg [.int .i32 _ qx,.int .i32 _ qy]),.v (.one (.int .i32 _ ss))]=>some (some ((-4194304≤px∧px≤4194304)∧(-4194304≤py∧py≤4194304)∧(-4194304≤rr∧rr≤4194304)∧(-4194304≤qx∧qx≤4194304)∧(-4194304≤qy∧qy≤4194304)∧(-4194304≤ss∧ss≤4194304)),.v (.one (.bool false (decide (0≤rr+ss∧(qx-px)*(qx-px)+(qy-py)*(qy-py)≤(rr+ss)*(rr+ss))))))
 |_=>none
theorem Pl(px:Int)(py:Int)(rr:Int)(qx:Int)(qy:Int)(ss:Int):goal ⟨Mx,Tryz.prog,AQ.l,aF.l,B0,none,false,[],none⟩ bK 400 Tryz.f295 [.v (.agg [.int .i32 false px,.int .i32 false py]),.v (.one (.int .i32 false rr)),.v (.agg [.int .i32 false qx,.int .i32 false qy]),.v (.one (.int .i32 false ss))] [] (fun r _=>dm mW r (.v (.one (.bool false (decide (0≤rr+ss∧(qx-px)*(qx-px)+(qy-py)*(qy-py)≤(rr+ss)*(rr+ss)))))))=(Q7 (Qz (Sl qx) (CB qx) (Sl qy∧CB qy) (RA (Sl px∧CB px) (Sl py∧CB py) (Sl (qx-px)) (CB (qx-px)) (Sl (qy-py)) (CB (qy-py)))) (Q5Z rr ss) (Q60 ((-16777216:Int)≤qx-px) (qx-px≤(16777216:Int)) ((-16777216:Int)≤qy-py) (qy-py≤(16777216:Int)) ((-16777216:Int)≤rr+ss) (rr+ss≤(16777216:Int))∧Q64 (rr+ss) ((qx-px)*(qx-px)) ((qy-py)*(qy-py)) ((rr+ss)*(rr+ss))=Q64 (rr+ss) ((qx-px)*(qx-px)) ((qy-py)*(qy-py)) ((rr+ss)*(rr+ss)))):=by kernel_rfl
theorem OT:bf Tryz.prog 295 wP:=by
 refine bB (cx Mx [] AQ aF) Tryz.func295 (by kernel_rfl) (by kernel_rfl) ?_
 intro us p v h hp;unfold wP at h;split at h
 ·rename_i k0 px k1 py k2 rr k3 qx k4 qy k5 ss;cases h;have hp:(-4194304≤px∧px≤4194304)∧(-4194304≤py∧py≤4194304)∧(-4194304≤rr∧rr≤4194304)∧(-4194304≤qx∧qx≤4194304)∧(-4194304≤qy∧qy≤4194304)∧(-4194304≤ss∧ss≤4194304):=hp;refine ⟨rfl,bK,400,[.v (.agg [.int .i32 false px,.int .i32 false py]),.v (.one (.int .i32 false rr)),.v (.agg [.int .i32 false qx,.int .i32 false qy]),.v (.one (.int .i32 false ss))],by simp [g9,dm,xn,ft,cC,oy,fX,mW],rfl,?_⟩
  rw [Pl];delta Q7 Q6 Qn Q5d RA Qz Sl CB Q60 Q5Z Q64
  (repeat' (first|(refine And.intro ?_ ?_)|intro _))
  all_goals (try simp only [decide_eq_true_eq,decide_eq_false_iff_not] at*)
  all_goals (try simp only [aL,aT,aU])
  all_goals (repeat' split)
  all_goals first|omega|rfl|trivial
 ·cases h
noncomputable def Uu:FC:=Ry wP
theorem SE:bf Tryz.prog 295 Uu:=dP OT
noncomputable def vR:=AQ.pu 295 SE
noncomputable def BT:FC:=fun us=>match us with
 | [.v (.agg [.int .i32 _ px,.int .i32 _ py]),.v (.agg [.int .i32 _ vx,.int .i32 _ vy]),.v (.agg [.int .i32 _ lx,.int .i32 _ ly,.int .i32 _ hx,.int .i32 _ hy])]=>some (some (vx=0∧vy=0∧lx≤px∧px≤hx∧ly≤py∧py≤hy∧(-2147483648≤px∧px≤2147483647)∧(-2147483648≤py∧py≤2147483647)),.cz [.agg [.int .i32 false (px),.int .i32 false (py)],.agg [.int .i32 true (0),.int .i32 true (0)],.one (.int .i64 true (0)),.one (.int .i64 true (0))])
 |_=>none
def Q66(a:Int):Prop:=Q60 ((-2147483648:Int)≤(0:Int)) ((0:Int)≤(2147483647:Int)) (Sl a) (CB a) (Sl ((0:Int)-a)) (CB ((0:Int)-a))
def gV(a b c:Int):Bool:=decide (a<(b+c))
def dU:Prop:=oO (9:Int)
def vH(a b:Int)(c:Prop)(d e:Int)(f g:Prop):Prop:=Q1a (Q5Z a b) c (Q7 (oO ((0:Int)-b)) ((-2147483648:Int)≤(32768:Int)) ((32768:Int)≤(2147483647:Int))) (decide (d<e)) f g
theorem Vr(px:Int)(py:Int)(vx:Int)(vy:Int)(lx:Int)(ly:Int)(hx:Int)(hy:Int):goal ⟨Mx,Tryz.prog,vR.l,aF.l,B0,none,false,[323,330,322],none⟩ bK 400 Tryz.f311 [.v (.agg [.int .i32 false px,.int .i32 false py]),.v (.agg [.int .i32 false vx,.int .i32 false vy]),.v (.agg [.int .i32 false lx,.int .i32 false ly,.int .i32 false hx,.int .i32 false hy])] [] (fun r _=>dm mW r (.cz [.agg [.int .i32 false (px),.int .i32 false (py)],.agg [.int .i32 true (0),.int .i32 true (0)],.one (.int .i64 true (0)),.one (.int .i64 true (0))]))=(Q0 (decide (lx≤hx)) (K7 (!(decide (ly≤hy))) (fi px∧fi py) (gk lG) lG CW (vH px vx (Q66 vx) (px+vx) lx (vH py vy (Q66 vy) (py+vy) ly (Q60 (lx=px) (ly=py) lG lG (oO (5:Int)) lG) (K7 (gV hy py vy) (lx=px∧hy=py) (gk lG) dU lG (Q60 (lx=px) (py+vy=py) lG (oO vy) CW lG))) (Q0 (gV hx px vx) (vH py vy (Q66 vy) (py+vy) ly (Q60 (hx=px) (ly=py) lG lG (oO (6:Int)) lG) (K7 (gV hy py vy) (hx=px∧hy=py) (gk lG) (oO (10:Int)) lG (Q60 (hx=px) (py+vy=py) lG (oO vy) (oO (2:Int)) lG))) (vH py vy (Q66 vy) (py+vy) ly (Q60 (px+vx=px) (ly=py) (oO vx) lG (oO (4:Int)) lG) (K7 (gV hy py vy) (px+vx=px∧hy=py) (gk (oO vx)) (oO (8:Int)) lG (Q60 (px+vx=px) (py+vy=py) (oO vx) (oO vy) lG lG)))))) (Q60 (fi px) (fi py) lG lG lG CW)):=by kernel_rfl
theorem Ui:bf Tryz.prog 311 BT:=by
 refine bB (cx Mx [323,330,322] vR aF) Tryz.func311 (by kernel_rfl) (by kernel_rfl) ?_
 intro us p v h hp;unfold BT at h;split at h
 ·rename_i k0 px k1 py k2 vx k3 vy k4 lx k5 ly k6 hx k7 hy;cases h;have hp:vx=0∧vy=0∧lx≤px∧px≤hx∧ly≤py∧py≤hy∧(-2147483648≤px∧px≤2147483647)∧(-2147483648≤py∧py≤2147483647):=hp;refine ⟨rfl,bK,400,[.v (.agg [.int .i32 false px,.int .i32 false py]),.v (.agg [.int .i32 false vx,.int .i32 false vy]),.v (.agg [.int .i32 false lx,.int .i32 false ly,.int .i32 false hx,.int .i32 false hy])],by simp [g9,dm,xn,ft,cC,oy,fX,mW],rfl,?_⟩
  rw [Vr];delta Q7 Q6 oO lG Qn Q3 Q4 Q0 K7 Q5d gk Sl Q1a CB Q60 CW Q5Z fi Q66 gV dU vH;obtain ⟨rfl,rfl,h1,h2,h3,h4,h5,h6⟩:=hp;simp only [Int.add_zero,Int.sub_zero,Bool.not_eq_true',Bool.not_eq_false']
  (repeat' (first|(refine And.intro ?_ ?_)|intro _))
  all_goals (try simp only [decide_eq_true_eq,decide_eq_false_iff_not] at*)
  all_goals (try simp only [aL,aT,aU])
  all_goals (repeat' split)
  all_goals first|omega|rfl|trivial
 ·cases h
noncomputable def Zv:FC:=Ry BT
theorem Ys:bf Tryz.prog 311 Zv:=dP Ui
noncomputable def JH:=vR.pu 311 Ys
def PQ(x:(xv×Unit))(y:(Unit)):Prop:=True
def qk(x:(xv×Unit))(y:(Unit)):((Unit×Unit)×Unit):=(((),()),())
noncomputable def XX:RC:=qR [true] [a8a] [] [(false,[.cl .aj])] PQ qk
theorem XI:aB Tryz.prog 258 XX:=by
 refine aD (cx Mx [194] JH aF) Tryz.func258 (by kernel_rfl) (by kernel_rfl) rfl rfl rfl fun (x:(xv×Unit)) h (y:(Unit)) k hp=>⟨bK,400,af (q:=Qf (((x.1.1,Qk),())=x) ((Qj,())=h) (mB=qk x y)) (by kernel_rfl) ?_⟩
 delta Q7 Q6 Qk Q5 mB Qj Qf;obtain ⟨⟨(k0:Int),⟨⟩,⟨⟩⟩,⟨⟩⟩:=x;obtain ⟨⟨⟨⟩,⟨⟩,⟨⟩⟩,⟨⟩⟩:=h;obtain ⟨⟨⟩⟩:=y;obtain ⟨⟨⟩⟩:=k
 try dsimp only [qk]
 simp [qk]
noncomputable def Ah:=JH.rd 258 XI
end Go.Proofs.YtfdmjoddhjmokaaGreatDoor
namespace Go.Proofs.YtfdmjoddhjmokaaGreatDoor
open Go.RowKit Rex
set_option linter.unusedVariables false
set_option linter.unusedSimpArgs false
set_option maxRecDepth 100000
def Yt:List UInt8:= [0,1,2,2,3,3,3,3,4,4,4,4,4,4,4,4,5,5,5,5,5,5,5,5,5,5,5,5,5,5,5,5,6,6,6,6,6,6,6,6,6,6,6,6,6,6,6,6,6,6,6,6,6,6,6,6,6,6,6,6,6,6,6,6,7,7,7,7,7,7,7,7,7,7,7,7,7,7,7,7,7,7,7,7,7,7,7,7,7,7,7,7,7,7,7,7,7,7,7,7,7,7,7,7,7,7,7,7,7,7,7,7,7,7,7,7,7,7,7,7,7,7,7,7,7,7,7,7,8,8,8,8,8,8,8,8,8,8,8,8,8,8,8,8,8,8,8,8,8,8,8,8,8,8,8,8,8,8,8,8,8,8,8,8,8,8,8,8,8,8,8,8,8,8,8,8,8,8,8,8,8,8,8,8,8,8,8,8,8,8,8,8,8,8,8,8,8,8,8,8,8,8,8,8,8,8,8,8,8,8,8,8,8,8,8,8,8,8,8,8,8,8,8,8,8,8,8,8,8,8,8,8,8,8,8,8,8,8,8,8,8,8,8,8,8,8,8,8,8,8,8,8,8,8,8,8]
noncomputable def NX:FC:=fun us=>match us with
 | [.v (.one (.int .u64 _ x))]=>some (some (x=0),.v (.one (.int .i64 true (0))))
 |_=>none
def iU(a:Int):Int:=a / (4294967296:Int)
def fq(a:Int):Int:=Q5X (iU a)
def RT(a:Int):Int:=a / (256:Int)
def Q6e(a:Int):Int:=cG Yt (RT a).toNat
def Q6c(a b:Int):Prop:=Q6 (aL IntKind.u8 a) (Qo a (256:Int)) (Qi (cG Yt a.toNat)) (Qd b (cG Yt a.toNat)) (oO (b+cG Yt a.toNat))
def Q6b(a b:Int):Prop:=Q6 (aL IntKind.u8 (RT a)) (Qo (RT a) (256:Int)) (Qi (Q6e a)) (Qd b (Q6e a)) (oO (b+Q6e a))
def Q6d(a:Int)(b:Prop)(c d:Int):Prop:=K7 (decide ((256:Int)≤a)) (aL IntKind.u8 (RT a)) (Qo (RT a) (256:Int)) (Qi (Q6e a)) (Vl b c) (Q6c a d)
theorem Vj(x:Int):goal ⟨Mx,Tryz.prog,Ah.l,aF.l,B0,none,false,[],none⟩ bK 400 Tryz.f238 [.v (.one (.int .u64 false x))] [] (fun r _=>dm mW r (.v (.one (.int .i64 true (0)))))=(Q0 (decide ((4294967296:Int)≤x)) (Q0 (decide ((65536:Int)≤(iU x))) (Q0 (decide ((256:Int)≤(fq x))) (Q6b (fq x) (56:Int)) (Q6c (fq x) (48:Int))) (Q0 (decide ((256:Int)≤(iU x))) (Q6b (iU x) (40:Int)) (Q6c (iU x) (32:Int)))) (Q0 (decide ((65536:Int)≤x)) (Q6d (Q5X x) (Qd (24:Int) (Q6e (Q5X x))) ((24:Int)+Q6e (Q5X x)) (16:Int)) (Q6d x (Qd (8:Int) (Q6e x)) ((8:Int)+Q6e x) (0:Int)))):=by kernel_rfl
theorem YX:bf Tryz.prog 238 NX:=by
 refine bB (cx Mx [] Ah aF) Tryz.func238 (by kernel_rfl) (by kernel_rfl) ?_
 intro us p v h hp;unfold NX at h;split at h
 ·rename_i k0 x;cases h;have hp:x=0:=hp;refine ⟨rfl,bK,400,[.v (.one (.int .u64 false x))],by simp [g9,dm,xn,ft,cC,oy,fX,mW],rfl,?_⟩
  rw [Vj];delta Q7 Q6 oO Qn Q3 Q4 Q0 Qi Qt K7 Qo iU Q5X Qd RT fq Vl Q6e Q6c Q6b Q6d;have h:x=0:=hp;subst h;have hb:cG Yt 0=0:=by decide
  simp only [show (0:Int).toNat=0 from rfl,hb]
  (repeat' (first|(refine And.intro ?_ ?_)|intro _))
  all_goals (try (refine Bool.eq_iff_iff.2 ?_))
  all_goals (try simp only [decide_eq_true_eq,decide_eq_false_iff_not,beq_iff_eq,beq_eq_false_iff_ne,bne_iff_ne,bne_eq_false_iff_eq,ne_eq,Bool.not_eq_true',Bool.not_eq_false',←Bool.not_eq_true,Bool.true_eq_false,Bool.false_eq_true,Bool.and_eq_true,Bool.or_eq_true,false_iff,iff_false,true_iff,iff_true,not_true_eq_false,not_false_eq_true,and_true,true_and,aL,aT,aU] at*)
  all_goals (repeat' split)
  all_goals first|omega|rfl|trivial
 ·cases h
noncomputable def um:=Ah.pu 238 YX
end Go.Proofs.YtfdmjoddhjmokaaGreatDoor
namespace Go.Proofs.YtfdmjoddhjmokaaGreatDoor
open Go.RowKit Rex
set_option linter.unusedVariables false
set_option linter.unusedSimpArgs false
set_option maxRecDepth 100000
abbrev uv:List Kd:= [.int .i64,.int .i64,.int .i64,.int .i64]
abbrev Db:List Kd:= [.int .i64,.int .i64,.int .i64,.int .i64,.int .i64,.int .i64,.int .i64,.int .i64,.int .i64]
abbrev fb:Sp:= .pt 94 [.int .i64,.me [.int .i64,.int .i64,.int .i64,.int .i64] true [.int .i64,.int .i64,.int .i64,.int .i64,.int .i64,.int .i64,.int .i64,.int .i64,.int .i64] true,.mp [.int .i64] false [.im [.int .i64,.int .i64,.int .i64,.int .i64,.int .i64,.int .i64,.int .i64,.int .i64,.int .i64]] false,.int .i64,.bool]
abbrev di:Type:=(Int×Nat×(ca [.int .i64] [.im [.int .i64,.int .i64,.int .i64,.int .i64,.int .i64,.int .i64,.int .i64,.int .i64,.int .i64]]×Nat)×Int×Bool×Unit)
def du(es:ca [.int .i64] [.im [.int .i64,.int .i64,.int .i64,.int .i64,.int .i64,.int .i64,.int .i64,.int .i64,.int .i64]]):Prop:= ∀e∈es,e.2.1.1.2= []
theorem Mr {A:Type} {p:A→Bool}: ∀ {l:List A} {i j:Nat} {a:A},LG p l i=some (j,a)→a∈l
 | [],_,_,_,h=>by cases h
 |b::l,i,j,a,h=>by
  unfold LG at h;split at h
  ·cases h;exact List.mem_cons_self
  ·exact List.mem_cons_of_mem _ (Mr h)
theorem mem_modify {A:Type} {f:A→A}: ∀ {l:List A} {i:Nat} {e:A},e∈l.modify i f→e∈l∨ ∃x∈l,e=f x
 | [],i,e,h=>by simp at h
 |a::l,0,e,h=>by
  rw [List.modify_zero_cons] at h;rcases List.mem_cons.1 h with h|h
  ·exact .inr ⟨a,List.mem_cons_self,h⟩
  ·exact .inl (List.mem_cons_of_mem _ h)
 |a::l,i+1,e,h=>by
  rw [List.modify_succ_cons] at h;rcases List.mem_cons.1 h with h|h
  ·exact .inl (by rw [h];exact List.mem_cons_self)
  ·rcases mem_modify h with h|⟨x,hx,h⟩
   ·exact .inl (List.mem_cons_of_mem _ h)
   ·exact .inr ⟨x,List.mem_cons_of_mem _ hx,h⟩
theorem VD {es:ca [.int .i64] [.im Db]} {k:Int} {r:Row [.im Db]}(h:du es)(hr:p9 es k=some r):r.1.2= []:=by
 unfold p9 at hr;rw [Option.map_eq_some_iff] at hr;obtain ⟨⟨j,e⟩,h1,rfl⟩:=hr;exact h e (Mr h1)
theorem Tr {es:ca [.int .i64] [.im Db]} {k:Int}(h:du es):du (nW es k):=fun e he=>by
 unfold nW at he;split at he
 ·exact h e (List.mem_of_mem_eraseIdx he)
 ·exact h e he
theorem VK {es:ca [.int .i64] [.im Db]} {k:Int} {v:Row [.im Db]} {c:Nat}(h:du es)(hv:v.1.2= []):du (kC es k v c).1:=fun e he=>by
 unfold kC at he;split at he
 ·rcases mem_modify he with he|⟨x,hx,rfl⟩
  ·exact h e he
  ·exact hv
 ·rcases List.mem_append.1 he with he|he
  ·exact h e he
  ·rw [List.mem_singleton.1 he];exact hv
def xR(a b:Sp.T fb)(P:Prop):Prop:=(a.1=b.1∧True∧True∧a.2.2.2.1=b.2.2.2.1∧a.2.2.2.2.1=b.2.2.2.2.1)∧(([]:ca uv Db)=([]:ca uv Db)∧a.2.1=b.2.1)∧(a.2.2.1.1=b.2.2.1.1∧a.2.2.1.2=b.2.2.1.2)∧P
def Aj(x:(Unit))(y:((Unit×Unit)×Unit)):Prop:=True
def nc(x:(Unit))(y:((Unit×Unit)×Unit)):((Unit×Unit)×Unit):=(((),()),())
noncomputable def Ur:RC:=qR [false] [] [(false,[.cl .aj])] [(false,[.cl .aj])] Aj nc
theorem W6:aB Tryz.prog 194 Ur:=by
 refine aD (cx Mx [] um aF) Tryz.func194 (by kernel_rfl) (by kernel_rfl) rfl rfl rfl fun (x:(Unit)) h (y:((Unit×Unit)×Unit)) k hp=>⟨bK,400,af (q:=Q5m True x h (nc x y)) (by kernel_rfl) ?_⟩
 delta Q7 Q6 Qk Q5 mB Q1 Q5m;obtain ⟨⟨⟩⟩:=x;obtain ⟨⟨⟩⟩:=h;obtain ⟨⟨⟨⟩,⟨⟩⟩,⟨⟩⟩:=y;obtain ⟨⟨⟨⟩,⟨⟩⟩,⟨⟩⟩:=k
 try dsimp only [nc]
 simp [nc]
noncomputable def fO:=um.rd 194 W6
def HE(x:(Unit))(y:((Int×Unit)×Unit)):Prop:=1≤y.1.1∧y.1.1≤256
def qz(x:(Unit))(y:((Int×Unit)×Unit))(x':(Unit))(z:((di×Unit)×(Unit×Unit)×Unit)):Prop:=z.1.1.1=y.1.1∧du z.1.1.2.2.1.1∧z.1.1.2.2.2.1= -1∧z.1.1.2.2.2.2.1=false
noncomputable def UM:MC:=qC [false] [] [(false,[.int .i64])] [(false,[fb]),(false,[.cl (.int .i64 (0))])] HE qz
def Q6g(a:Int)(b c:Prop):Prop:=Ql (decide (a<(1:Int))) b c
def Vt(a:ky):Bool:=decide ((256:Int)<a.1.1)
theorem Us:ab Tryz.prog 60 UM:=by
 refine ah (cx Mx [] fO aF) Tryz.func60 (by kernel_rfl) (by kernel_rfl) fun (x:(Unit)) h (y:((Int×Unit)×Unit)) k hf hg hp=>⟨bK,400,af (q:=Q6g y.1.1 (Q0 (Vt y) False (Q10 (gk (([]:List (Row uv×Row Db×Nat))= [])) (qz x y () (((y.1.1,(0:Nat),(([]:List (Row [Kd.int IntKind.i64]×Row [Kd.im [Kd.int IntKind.i64,Kd.int IntKind.i64,Kd.int IntKind.i64,Kd.int IntKind.i64,Kd.int IntKind.i64,Kd.int IntKind.i64,Kd.int IntKind.i64,Kd.int IntKind.i64,Kd.int IntKind.i64]]×Nat)),(0:Nat)),(-1:Int),Q8),()),mB)))) False) (by kernel_rfl) ?_⟩
 delta Q7 oO lG Q3 Qk Q4 Q0 mB Q10 Ql gk Q8 Q6g Vt;obtain ⟨⟨⟩⟩:=x;obtain ⟨⟨⟩⟩:=h;obtain ⟨⟨(k0:Int),⟨⟩⟩,⟨⟩⟩:=y;obtain ⟨⟨⟨⟩,⟨⟩⟩,⟨⟩⟩:=k
 try dsimp only
 obtain ⟨h1,h2⟩:=(show 1≤k0∧k0≤256 from hp);have hpost:qz () ((k0,()),()) () (((k0,(0:Nat),([],(0:Nat)),(-1:Int),false,()),()),((),()),()):=⟨rfl,(show du [] from fun _ h=>by cases h),rfl,rfl⟩
 simp only [cl]
 (repeat' (first|exact hpost|(refine And.intro ?_ ?_)|intro _))
 all_goals first|(exfalso;omega)|omega|trivial|rfl|(simp only [aL,aT,aU];omega)|exact hpost
noncomputable def MW:=aF.add 60 Us
def E0(x:(Unit))(y:((Int×Unit)×Unit)):Prop:= ¬(1≤y.1.1∧y.1.1≤256)
def gH(x:(Unit))(y:((Int×Unit)×Unit))(x':(Unit))(z:((Unit×Unit)×(Unit×Unit)×Unit)):Prop:=True
noncomputable def LZ:MC:=qC [false] [] [(false,[.int .i64])] [(false,[.cl .cb]),(false,[.cl (.int .i64 (1))])] E0 gH
def El(a:Prop):Prop:=Q10 Q5e a
theorem Om:ab Tryz.prog 60 LZ:=by
 refine ah (cx Mx [] fO MW) Tryz.func60 (by kernel_rfl) (by kernel_rfl) fun (x:(Unit)) h (y:((Int×Unit)×Unit)) k hf hg hp=>⟨bK,400,af (q:=Q6g y.1.1 (QK (Vt y) True Q5e (gH x y () LP) False) (El (gH x y () LP))) (by kernel_rfl) ?_⟩
 delta Q7 Q3 Qk Q4 Q0 mB QK Q5e Q10 Ql LP El Q6g Vt;obtain ⟨⟨⟩⟩:=x;obtain ⟨⟨⟩⟩:=h;obtain ⟨⟨(k0:Int),⟨⟩⟩,⟨⟩⟩:=y;obtain ⟨⟨⟨⟩,⟨⟩⟩,⟨⟩⟩:=k
 try dsimp only
 have h1: ¬(1≤k0∧k0≤256):=hp;simp only [cl]
 (repeat' (first|(refine And.intro ?_ ?_)|intro _))
 all_goals first|(exfalso;omega)|omega|trivial|rfl|(simp only [aL,aT,aU];omega)
noncomputable def SC:=MW.add 60 Om
noncomputable def YT:MC:=orC UM LZ
theorem Fc:ab Tryz.prog 60 YT:=jD Us Om
noncomputable def Hp:=SC.add 60 Fc
def wy(x:(di×Unit))(y:(Unit)):Prop:=True
def jZ(x:(di×Unit))(y:(Unit))(x':(di×Unit))(z:((Unit×Unit)×Unit)):Prop:=x'.1.2.2.2.1=x.1.2.2.2.1∧x'.1.2.2.2.2.1=x.1.2.2.2.2.1∧x'.1.1=x.1.1∧x'.1.2.2.1.1=x.1.2.2.1.1
noncomputable def XQ:MC:=qC [true] [fb] [] [(false,[.cl .aj])] wy jZ
def Q6j(a:Nat):Prop:=cR (uN a) True
theorem Ny:ab Tryz.prog 18 XQ:=by
 refine ah (cx Mx [191,247,192,245,281,282,194,284,283,246,46,93,167,47,94,168,229,169] fO Hp) Tryz.func18 (by kernel_rfl) (by kernel_rfl) fun (x:(di×Unit)) h (y:(Unit)) k hf hg hp=>⟨(fun bk=>match bk with|309001000=>some {S:=Nat,st:=fun s=>⟨jk [(6,.v (.one (.ptr 6 0)))] 15,[some (.cells [.int .i64 false x.1.1,.mp 1,.mp 2,.int .i64 false x.1.2.2.2.1,.bool false x.1.2.2.2.2.1] 94),some (.map uv true Db true [] x.1.2.1),some (.map [.int .i64] false [.im Db] false x.1.2.2.1.1 x.1.2.2.1.2),some (.cells [.mp 1] 91),some (.cells [.aj] 56),none,some (.it 1 x.1.2.1 [] x.1.2.1)]⟩,ok:=fun s=>True,mu:=fun s=>0,init:=0}|_=>none),400,af (q:= ∀ (va:Nat) (vb:Loop),ya (Q6j va∧xR x.1 x.1 (Qf (vb=vb∧jh) (Q7 (x.1.2.1=x.1.2.1) (([]:List Nat)= []) (x.1.2.1=x.1.2.1)) True))∧(∀ (vc:Nat),True→Qz Q44 (x.1.2.1≤x.1.2.1) ((List.filter (fun (e:Row uv×Row Db×Nat)=> ![].contains e.snd.snd) [])=([]:List (Row uv×Row Db×Nat))→Qn lG (([]:List (Row uv×Row Db×Nat))= []) True (jZ x y (x.1,()) mB)) (∀ (vd:Row uv×Row Db×Nat),List.Mem vd (List.filter (fun (e:Row uv×Row Db×Nat)=> ![].contains e.snd.snd) [])→False))) (by kernel_rfl) ?_⟩
 delta Q7 Q6 oO lG Qn kA cR ya jh Qk Q5 mB Q27 Qz uN kS Qf Q6j Q44 xR;obtain ⟨⟨(n0:Int),m0,⟨o0,p0⟩,(k0:Int),l0,⟨⟩⟩,⟨⟩⟩:=x;obtain ⟨⟨⟨⟩,⟨⟩,⟨⟩,⟨⟩,⟨⟩,⟨⟩⟩,⟨⟩⟩:=h;obtain ⟨⟨⟩⟩:=y;obtain ⟨⟨⟩⟩:=k
 try dsimp only
 simp only [cl];have hpost:jZ ((n0,m0,(o0,p0),k0,l0,()),()) () ((n0,m0,(o0,p0),k0,l0,()),()) (((),()),()):=⟨rfl,rfl,rfl,rfl⟩;exact ⟨Nat.le_refl _,fun _=>hpost,fun e he=>by cases he⟩
noncomputable def Iz:=Hp.add 18 Ny
def wu(x:(di×Unit))(y:(xv×(Int×Unit)×Unit)):Prop:=du x.1.2.2.1.1∧x.1.2.2.2.2.1=false∧x.1.2.2.2.1<y.1.1∧y.1.1≤y.2.1.1∧y.2.1.1≤1000000
def rT(x:(di×Unit))(y:(xv×(Int×Unit)×Unit))(x':(di×Unit))(z:((Unit×Unit)×(Unit×Unit)×Unit)):Prop:=du x'.1.2.2.1.1∧x'.1.2.2.2.1=x.1.2.2.2.1∧x'.1.2.2.2.2.1=false
noncomputable def XP:MC:=qC [true,false,false] [fb] [(true,[.int .i64,.cl .aj]),(false,[.int .i64])] [(false,[.cl .aj]),(false,[.cl (.int .i64 (0))])] wu rT
abbrev re:Type:=eZ [(false,[Sp.cl Lc.aj])]
abbrev qh:Type:=aZ [(false,[Sp.cl Lc.aj])]
abbrev lC:Type:=Sp.Hs [fb]
abbrev gy:Type:=Sp.Ts [fb]
abbrev Ak:Type:=di×Unit
def Yy(a b:Prop):Prop:=QC True a True b
def Q6r(a:Prop):Prop:=Yy True a
def Q6q:Prop:=Q6r True
def Q6n:Prop:=Q2l Q6q
def Q6m(a b:Prop):Prop:=Qs (([]:List (Row uv×Row Db×Nat))= []) a b
def Q6p(a b:Prop):Prop:=Q7 (([]:List (Row uv×Row Db×Nat))= []) a b
def Q6o:Value×List (Row [Kd.int IntKind.i64,Kd.int IntKind.i64,Kd.int IntKind.i64,Kd.int IntKind.i64,Kd.int IntKind.i64,Kd.int IntKind.i64,Kd.int IntKind.i64,Kd.int IntKind.i64,Kd.int IntKind.i64]):=(Value.slice none (0:Nat) (0:Nat),([]:List (Row [Kd.int IntKind.i64,Kd.int IntKind.i64,Kd.int IntKind.i64,Kd.int IntKind.i64,Kd.int IntKind.i64,Kd.int IntKind.i64,Kd.int IntKind.i64,Kd.int IntKind.i64,Kd.int IntKind.i64])))
def Ej(a:Ak)(b:(Int×Unit×Unit)×(Int×Unit)×Unit):Prop:=rT a b (a.1,()) LP
def CF(a:Ak)(b c:Prop):Prop:=QK a.1.2.2.2.2.1 (([]:List (Row uv×Row Db×Nat))= []) (oO (12:Int)) b c
theorem GQ:ab Tryz.prog 130 XP:=by
 refine ah (cx Mx [191,247,192,245,281,282,194,284,283,246,46,93,167,47,94,168,229,169] fO Iz) Tryz.func130 (by kernel_rfl) (by kernel_rfl) fun (x:(di×Unit)) h (y:(xv×(Int×Unit)×Unit)) k hf hg hp=>⟨bK,400,af (q:=CF x (Ej x y) (∀ (va:Nat) (vb:Loop),Ql (mL y.2 y.1.1) (QK (gD y.2) (([]:List (Row uv×Row Db×Nat))= []) CW (Ej x y) (QK (decide (y.1.1≤x.1.2.2.2.1)) (([]:List (Row uv×Row Db×Nat))= []) (oO (10:Int)) (Ej x y) (Q6m (wy (x.1,()) ()) (∀ (vc:gy) (vd:lC) (ve:qh) (vf:re),Q3j Q6n (jZ (x.1,()) () vc ve) (Qn (Aj () (((),()),())) (([]:List (Row uv×Row Db×Nat))= []) lG (rT x y ((vc.1.1,vc.1.2.1,((kC vc.1.2.2.1.1 y.1.1 (Q6o,()) vc.1.2.2.1.2).1,(kC vc.1.2.2.1.1 y.1.1 (Q6o,()) vc.1.2.2.1.2).2),vc.1.2.2.2.1,vc.1.2.2.2.2.1,()),()) LP)))))) (Q6p CW (Ej x y)))) (by kernel_rfl) ?_⟩
 delta Q7 Q6 oO lG QC Qn Yy Q6r Qs Q3 ya Qk Q4 Q6q JY Q0 uI mB QK dD Q3j Ql LP Q2l Q6n CW Q6m mL gD Q6p Q6o Ej CF;obtain ⟨⟨(p0:Int),q0,⟨m0,r0⟩,(l0:Int),o0,⟨⟩⟩,⟨⟩⟩:=x;obtain ⟨⟨⟨⟩,⟨⟩,⟨⟩,⟨⟩,⟨⟩,⟨⟩⟩,⟨⟩⟩:=h;obtain ⟨⟨(k0:Int),⟨⟩,⟨⟩⟩,⟨(n0:Int),⟨⟩⟩,⟨⟩⟩:=y;obtain ⟨⟨⟨⟩,⟨⟩,⟨⟩⟩,⟨⟨⟩,⟨⟩⟩,⟨⟩⟩:=k
 try dsimp only
 obtain ⟨hT,hH,h1,h2,h3⟩:=(show du m0∧o0=false∧l0<k0∧k0≤n0∧n0≤1000000 from hp);subst hH;simp only [cl];refine ⟨fun h=>absurd h (by decide),⟨fun a1=>⟨fun a2=>absurd a2 (by omega),fun a2=>⟨fun a3=>absurd a3 (by omega),fun a3=>⟨trivial,fun x z hx=>?_⟩⟩⟩,fun a1=>absurd a1 (by omega)⟩⟩
 obtain ⟨x1,x2,x3,x4⟩:=(show x.1.2.2.2.1=l0∧x.1.2.2.2.2.1=false∧x.1.1=p0∧x.1.2.2.1.1=m0 from hx);refine ⟨trivial,?_,x1,x2⟩;show du (kC x.1.2.2.1.1 k0 _ _).1;rw [x4];exact VK hT rfl
noncomputable def IK:=Iz.add 130 GQ
def xt(x:(di×Unit))(y:((Int×Unit)×Unit)):Prop:=du x.1.2.2.1.1∧x.1.2.2.2.2.1=false∧y.1.1=x.1.2.2.2.1+1∧ -1≤x.1.2.2.2.1∧x.1.2.2.2.1≤1000000
def gn(x:(di×Unit))(y:((Int×Unit)×Unit))(x':(di×Unit))(z:((Unit×Unit)×(Unit×Unit)×Unit)):Prop:=du x'.1.2.2.1.1∧x'.1.2.2.2.1=y.1.1∧x'.1.2.2.2.2.1=false
noncomputable def R2:MC:=qC [true,false] [fb] [(false,[.int .i64])] [(false,[.cl .aj]),(false,[.cl (.int .i64 (0))])] xt gn
abbrev a0R:Type:=Row [Kd.im [Kd.int IntKind.i64,Kd.int IntKind.i64,Kd.int IntKind.i64,Kd.int IntKind.i64,Kd.int IntKind.i64,Kd.int IntKind.i64,Kd.int IntKind.i64,Kd.int IntKind.i64,Kd.int IntKind.i64]]
def Xv(a:Ak)(b:ky):Prop:=Q6p lG (gn a b ((a.1.1,a.1.2.1,(nW a.1.2.2.1.1 b.1.1,a.1.2.2.1.2),b.1.1,a.1.2.2.2.2.1,()),()) LP)
def Q6t(a:a0R):Bool:=decide ((0:Int)<(↑a.1.2.length:Int))
theorem wC:ab Tryz.prog 78 R2:=by
 refine ah (cx Mx [191,247,192,245,281,282,194,284,283,246,46,93,167,47,94,168,229,169] fO IK) Tryz.func78 (by kernel_rfl) (by kernel_rfl) fun (x:(di×Unit)) h (y:((Int×Unit)×Unit)) k hf hg hp=>⟨bK,400,af (q:=CF x (gn x y (x.1,()) LP) (QT (QE x.1.2.2.2.1) (y.1.1 !=QH x.1.2.2.2.1) (Q6p (oO (11:Int)) (gn x y (x.1,()) LP)) ((∀ (va:a0R),p9 x.1.2.2.1.1 y.1.1=some va→QK (Q6t va) (Q5f (↑va.1.2.length:Int)) (D7 va.1.2.length) False (Xv x y))∧(p9 x.1.2.2.1.1 y.1.1=none→Xv x y)))) (by kernel_rfl) ?_⟩
 delta Q7 oO lG Q3 Qk Q4 Q0 mB QH QK Qi QE LP QT D7 Q5f Q6p Xv CF Q6t;obtain ⟨⟨(n0:Int),m0,⟨l0,o0⟩,(k0:Int),p0,⟨⟩⟩,⟨⟩⟩:=x;obtain ⟨⟨⟨⟩,⟨⟩,⟨⟩,⟨⟩,⟨⟩,⟨⟩⟩,⟨⟩⟩:=h;obtain ⟨⟨(fr:Int),⟨⟩⟩,⟨⟩⟩:=y;obtain ⟨⟨⟨⟩,⟨⟩⟩,⟨⟩⟩:=k
 try dsimp only
 obtain ⟨hT,hH,h1,h2,h3⟩:=(show du l0∧p0=false∧fr=k0+1∧ -1≤k0∧k0≤1000000 from hp);subst hH h1;simp only [cl];have hpost:gn ((n0,m0,(l0,o0),k0,false,()),()) ((k0+1,()),()) ((n0,m0,(nW l0 (k0+1),o0),k0+1,false,()),()) (((),()),((),()),()):=⟨Tr hT,rfl,rfl⟩;refine ⟨fun h=>absurd h (by decide),by simp only [aL,aT,aU];omega,fun h=>h.elim,fun r hr=>⟨fun h=>?_,fun _=>hpost⟩,fun _=>hpost⟩
 rw [VD hT hr] at h;exact absurd h (by simp)
noncomputable def Bx:=IK.add 78 wC
def lZ(x:(di×Unit))(y:(Unit)):Prop:=x.1.2.2.2.2.1=false
def nX(x:(di×Unit))(y:(Unit))(x':(di×Unit))(z:((Unit×Unit)×Unit)):Prop:=x'.1.2.2.2.1=x.1.2.2.2.1∧x'.1.2.2.2.2.1=true
noncomputable def XF:MC:=qC [true] [fb] [] [(false,[.cl .aj])] lZ nX
def Q6v(a:Ak):Ak:=((a.1.1,a.1.2.1,(a.1.2.2.1.1,a.1.2.2.1.2),a.1.2.2.2.1,Qq),())
theorem F8:ab Tryz.prog 103 XF:=by
 refine ah (cx Mx [191,247,192,245,281,282,194,284,283,246,46,93,167,47,94,168,229,169] fO Bx) Tryz.func103 (by kernel_rfl) (by kernel_rfl) fun (x:(di×Unit)) h (y:(Unit)) k hf hg hp=>⟨bK,400,af (q:=QK x.1.2.2.2.2.1 (([]:List (Row uv×Row Db×Nat))= []) True (nX x y (x.1,()) mB) (Q6m (wy (Q6v x) ()) (∀ (va:gy) (vb:lC) (vc:qh) (vd:re),Q3j Q6n (jZ (Q6v x) () va vc) (QR (([]:List (Row uv×Row Db×Nat))= []) (nX x y (va.1,()) mB))))) (by kernel_rfl) ?_⟩
 delta Q7 Q6 QC Qn Yy Q6r Qs Q3 ya Qk Q4 Q6q JY Q0 uI mB QK dD Q3j Q2l Q6n QR Q6m Qq Q6v;obtain ⟨⟨(m0:Int),o0,⟨n0,p0⟩,(k0:Int),l0,⟨⟩⟩,⟨⟩⟩:=x;obtain ⟨⟨⟨⟩,⟨⟩,⟨⟩,⟨⟩,⟨⟩,⟨⟩⟩,⟨⟩⟩:=h;obtain ⟨⟨⟩⟩:=y;obtain ⟨⟨⟩⟩:=k
 try dsimp only
 have hH:l0=false:=hp;subst hH;simp only [cl];refine ⟨fun h=>absurd h (by decide),trivial,fun x z hx=>?_⟩
 obtain ⟨x1,x2,x3,x4⟩:=(show x.1.2.2.2.1=k0∧x.1.2.2.2.2.1=true∧x.1.1=m0∧x.1.2.2.1.1=n0 from hx);exact ⟨x1,x2⟩
noncomputable def qd:=Bx.add 103 F8
end Go.Proofs.YtfdmjoddhjmokaaGreatDoor
namespace Go.Proofs.YtfdmjoddhjmokaaGreatDoor
set_option linter.unusedVariables false
abbrev AM:=Int×Int×Int×Int×Nat×Int×Int
structure LA where
 (nonce pat st tk hd on ak nx ct:Int)
 q:List AM
def LA.XW(k:LA)(lead:Int):List AM:=(if 0<k.on then ((3,0,k.ak,k.nx,k.on.toNat,0,0):AM) else (5,0,0,k.nx,0,0,0))::if k.tk %8=0 then [((6,0,k.nx,0,0,0,lead):AM)] else []
def LA.m7(k:LA)(lead:Int):List AM:=k.q++if k.st=0 then [((1,k.nonce,0,0,0,0,0):AM)] else k.XW lead
def LA.dI(k:LA)(f:Int):LA:=if f<k.ak∨k.ak+k.on<f then k else {k with ak:=f,on:=k.on-(f-k.ak)}
abbrev HA:=Int×Int×Nat×Int×Int×Int
def LA.yD(k:LA):LA:= {k with hd:=k.tk,ct:=k.ct+1}
def LA.aw(k:LA)(a:AM):LA×HA:=
 if a.1=1 then ({k.yD with q:=k.q++ [(2,a.2.1,0,0,0,0,0)]},(1,0,0,0,0,0)) else
 if a.1=2 then ({k.yD with st:=1},(2,0,0,0,0,0)) else
 if k.st=0 then (k.yD,(0,0,0,0,0,0)) else
 if a.1=3 then (if k.nx<a.2.2.1∨a.2.2.1+a.2.2.2.2.1≤k.nx then (k.yD.dI a.2.2.2.1,(0,0,0,0,0,0)) else ({k.yD.dI a.2.2.2.1 with nx:=a.2.2.1+a.2.2.2.2.1},(3,k.nx,(a.2.2.1+a.2.2.2.2.1-k.nx).toNat,0,0,0))) else
 if a.1=4 then (k.yD,(4,0,0,a.2.2.1,a.2.2.2.2.2.1,0)) else
 if a.1=5 then (k.yD.dI a.2.2.2.1,(5,0,0,0,0,0)) else (k.yD,(6,0,0,0,0,a.2.2.2.2.2.2))
def LA.cK(k:LA)(a:AM):Prop:=k.q.length<8∧k.ct<90000∧(a.1=2→a.2.1=k.nonce)∧a.2.2.1≤8000∧a.2.2.2.1≤8000
theorem LA.a7z(k:LA)(n se ak:Int)(m:Nat)(su le:Int):k.aw (1,n,se,ak,m,su,le)=({k.yD with q:=k.q++ [(2,n,0,0,0,0,0)]},(1,0,0,0,0,0)):=by simp [LA.aw]
theorem LA.a7a(k:LA)(n se ak:Int)(m:Nat)(su le:Int):k.aw (2,n,se,ak,m,su,le)=({k.yD with st:=1},(2,0,0,0,0,0)):=by simp [LA.aw]
theorem LA.Nj {k:LA}(h:k.st=0) {d:Int}(h1:d≠1)(h2:d≠2)(n se ak:Int)(m:Nat)(su le:Int):k.aw (d,n,se,ak,m,su,le)=(k.yD,(0,0,0,0,0,0)):=by simp [LA.aw,h,h1,h2]
theorem LA.a7M {k:LA}(h:k.st≠0)(n se ak:Int)(m:Nat)(su le:Int):k.aw (3,n,se,ak,m,su,le)=if k.nx<se∨se+m≤k.nx then (k.yD.dI ak,(0,0,0,0,0,0)) else ({k.yD.dI ak with nx:=se+m},(3,k.nx,(se+m-k.nx).toNat,0,0,0)):=by simp [LA.aw,h]
theorem LA.a7N {k:LA}(h:k.st≠0)(n se ak:Int)(m:Nat)(su le:Int):k.aw (4,n,se,ak,m,su,le)=(k.yD,(4,0,0,se,su,0)):=by simp [LA.aw,h]
theorem LA.a8f {k:LA}(h:k.st≠0)(n se ak:Int)(m:Nat)(su le:Int):k.aw (5,n,se,ak,m,su,le)=(k.yD.dI ak,(5,0,0,0,0,0)):=by simp [LA.aw,h]
theorem LA.a8c {k:LA}(h:k.st≠0)(n se ak:Int)(m:Nat)(su le:Int):k.aw (6,n,se,ak,m,su,le)=(k.yD,(6,0,0,0,0,le)):=by simp [LA.aw,h]
theorem LA.JV(k:LA)(f c:Int):({k with ct:=c}:LA).dI f= {k.dI f with ct:=c}:=by unfold LA.dI;dsimp only;split<;>rfl
theorem LA.Gn(k:LA)(f:Int):(k.dI f).ct=k.ct:=by unfold LA.dI;split<;>rfl
theorem LA.a2M(k:LA)(f:Int):(k.dI f).nx=k.nx:=by unfold LA.dI;split<;>rfl
instance(k:LA)(a:AM):Decidable (k.cK a):=by unfold LA.cK;infer_instance
structure PA where
 (d mn th now F cm far rs sm ot:Int)
 k:LA
 (ow wt hl df:Bool)
def PA.eY(a:PA):PA:=if a.k.st=1 then {a with mn:=a.mn+1,now:=a.now+1,k:= {a.k with on:=a.k.on+1}} else a
def PA.se(a:PA):Int:=min (min a.mn a.th) a.now-1
def PA.rep(a:PA):PA:= {a with ow:=true,wt:=false,hl:=a.wt&&a.df,rs:=if a.wt&&a.df then 13 else a.rs,k:= {a.k with q:=a.k.q++ [(4,0,16,0,0,a.sm,0)]}}
def PA.set(a:PA):PA:=if a.cm<a.se then (if a.cm=14 then {a.rep with cm:=15} else {a with cm:=a.cm+1}) else a
theorem PA.a3k {a:PA}(h:a.cm<a.se):a.set.cm=a.cm+1:=by
 unfold PA.set;rw [if_pos h];split
 ·rename_i k;show (15:Int)=a.cm+1;omega
 ·rfl
theorem PA.a2k(a:PA):a.set.se=a.se:=by
 unfold PA.set;split
 ·split<;>rfl
 ·rfl
theorem PA.a2L {a:PA}(h: ¬a.cm<a.se):a.set=a:=if_neg h
theorem PA.Y6 {a:PA}(h:a.cm<a.se)(k:a.cm=14):a.set=({a with cm:=15}:PA).rep:=by unfold PA.set;rw [if_pos h,if_pos k];rfl
theorem PA.a4j {a:PA}(h:a.cm<a.se)(k:a.cm≠14):a.set= {a with cm:=a.cm+1}:=by unfold PA.set;rw [if_pos h,if_neg k]
def PA.free(a:PA):PA:= {a with F:=if a.se<a.F then a.F else a.se}
def LA.tick(k:LA):LA:= {k with tk:=k.tk+1}
def PA.tick(a:PA):PA×List AM:=if a.hl then ({a with k:= {a.k.tick with q:= []}},a.k.tick.m7 0) else
 ({a.eY.set.free with k:= {a.eY.set.k.tick with q:= []}},a.eY.set.k.tick.m7 (a.eY.now-a.th))
def PA.mK(a:PA):Prop:=a.k.st=1→a.mn=a.now+a.d∧a.now+a.d≤a.th∧a.mn-a.F<60∧a.now<480∧a.mn=a.k.ak+a.k.on∧a.k.on<60∧a.cm<a.now∧a.now-a.th-a.far≤4∧ -100≤a.far∧a.far≤100
def PA.oA(a:PA):Prop:=a.cm≤a.se∧a.se≤a.cm+1∧a.se<31∧a.k.q.length<8∧(a.cm=14→a.F≤16∧a.ow=false)∧ -1≤a.cm
def PA.aE(a:PA):Prop:=a.k.st≠2∧a.k.tk+1-a.k.hd≤a.k.pat∧a.k.tk<90000∧(a.hl=false→a.mK∧a.eY.oA∧ -60≤a.eY.now-a.th∧a.eY.now-a.th≤60)
def PA.aw(a:PA)(m:AM):PA:=if a.hl then a else
 if (a.k.aw m).2.1=3 then {a with k:=(a.k.aw m).1,th:=a.th+(a.k.aw m).2.2.2.1} else
 if (a.k.aw m).2.1=4 then (if a.ow then {a with k:=(a.k.aw m).1,hl:=a.df,rs:=if a.df then 13 else a.rs} else {a with k:=(a.k.aw m).1,wt:=true}) else
 if (a.k.aw m).2.1=6 then {a with k:=(a.k.aw m).1,far:=(a.k.aw m).2.2.2.2.2.2} else {a with k:=(a.k.aw m).1}
def PA.cK(a:PA)(m:AM):Prop:=a.hl=false→a.k.st≠2∧a.k.cK m∧((a.k.aw m).2.1=3→(a.k.aw m).2.2.1=a.th∧a.th+(a.k.aw m).2.2.2.1-a.F<60∧a.th<900)∧(m.1=4→m.2.2.1=16∧a.wt=false∧a.cm≤14+(if a.ow then 100 else 0))
instance(a:PA):Decidable a.mK:=by unfold PA.mK;infer_instance
instance(a:PA):Decidable a.oA:=by unfold PA.oA;infer_instance
instance(a:PA):Decidable a.aE:=by unfold PA.aE;infer_instance
instance(a:PA)(m:AM):Decidable (a.cK m):=by unfold PA.cK;infer_instance
def PA.new(nonce pat d sm ot:Int)(df:Bool):PA:=⟨d,d,d,0,0,-1,0,0,sm,ot,⟨nonce,pat,0,0,0,0,d,d,0,[]⟩,false,false,false,df⟩
end Go.Proofs.YtfdmjoddhjmokaaGreatDoor
namespace Go.Proofs.YtfdmjoddhjmokaaGreatDoor
open Go.RowKit Rex
set_option linter.unusedVariables false
set_option linter.unusedSimpArgs false
set_option maxRecDepth 100000
def zz(n:Int):Int:=if 0≤n then 2*n else-(2*n)-1
def uz(v:Int):Int:=if v %2=0 then v / 2 else-(v / 2)-1
theorem a0W(n:Int):uz (zz n)=n:=by unfold uz zz;split<;>split<;>omega
theorem zH {n:Int}(h: -60≤n)(k:n≤60):0≤zz n∧zz n≤120:=by unfold zz;split<;>omega
def BX(kind nonce serial dI:Int)(ins:List (Row [.int .u8]))(sum lead:Int):Prop:=ins=fV ins.length∧ins.length≤64∧ -60≤lead∧lead≤60∧(((kind=1∨kind=2)∧serial=0∧dI=0∧ins= []∧sum=0∧lead=0)∨(kind=3∧nonce=0∧sum=0∧lead=0∧ins≠ [])∨(kind=4∧nonce=0∧dI=0∧ins= []∧lead=0)∨(kind=5∧nonce=0∧serial=0∧ins= []∧sum=0∧lead=0)∨(kind=6∧nonce=0∧dI=0∧ins= []∧sum=0))
def pkM(kind nonce serial dI:Int)(n:Nat)(sum lead:Int):List UInt8:=if kind=1 then G9 nonce else if kind=2 then v8 nonce else if kind=3 then zx serial dI n else if kind=4 then Ae serial sum else if kind=5 then Fx dI else uU serial (zz lead)
def we(x:(Unit))(y:((Int×Int×Int×Int×List (Row [.int .u8])×Int×Int×Unit)×(Int×Int×Int×Int×List (Row [.int .u8])×Int×Int×Unit)×Unit)):Prop:=y.2.1.1=y.1.1∧y.2.1.2.1=y.1.2.1∧y.2.1.2.2.1=y.1.2.2.1∧y.2.1.2.2.2.1=y.1.2.2.2.1∧y.2.1.2.2.2.2.1=y.1.2.2.2.2.1∧y.2.1.2.2.2.2.2.1=y.1.2.2.2.2.2.1∧y.2.1.2.2.2.2.2.2.1=y.1.2.2.2.2.2.2.1∧List.length y.1.2.2.2.2.1≤4096
def fT(x:(Unit))(y:((Int×Int×Int×Int×List (Row [.int .u8])×Int×Int×Unit)×(Int×Int×Int×Int×List (Row [.int .u8])×Int×Int×Unit)×Unit)):((Unit×Unit)×Unit):=(((),()),())
noncomputable def Zr:RC:=qR [false,false] [] [(true,[.int .i64,.int .u32,.int .u16,.int .u16,.im [.int .u8],.int .u32,.int .i64]),(true,[.int .i64,.int .u32,.int .u16,.int .u16,.im [.int .u8],.int .u32,.int .i64])] [(false,[.cl (.bool true)])] we fT
def Uy(a:iT):GF:=((a.1.2.2.2.2.1,()),())
theorem XC:aB Tryz.prog 182 Zr:=by
 refine aD (cx Mx [] fO qd) Tryz.func182 (by kernel_rfl) (by kernel_rfl) rfl rfl rfl fun (x:(Unit)) h (y:((Int×Int×Int×Int×List (Row [.int .u8])×Int×Int×Unit)×(Int×Int×Int×Int×List (Row [.int .u8])×Int×Int×Unit)×Unit)) k hp=>⟨bK,400,af (q:=Q0 (y.1.1==y.2.1.1) (Q0 (y.1.2.1==y.2.1.2.1) (Q0 (y.1.2.2.1==Fz y.2) (Qu y.1.2.2.2.1 (L4 y.2) (sC () ((y.1.2.2.2.2.1,()),Uy y.2)) (Q3 (y.1.2.2.2.2.2.1==KM y.2) (Q5m (kS (y.1.2.2.2.2.2.2.1==Q5J y.2)) x h (fT x y))) (Q4 (y.1.2.2.2.2.2.1==KM y.2) (Q14 uL (()=x) (()=h∧mB=fT x y))) (Q5m uL x h (fT x y))) (Q5m uL x h (fT x y))) (Q5m uL x h (fT x y))) (Q5m uL x h (fT x y))) (by kernel_rfl) ?_⟩
 delta Q7 Q6 Qn Q3 Qk Q4 Q5 Q0 mB QK Q5J Q1 Q5m KM L4 Fz kS Qu Q14 uL Uy;obtain ⟨⟨⟩⟩:=x;obtain ⟨⟨⟩⟩:=h;obtain ⟨⟨(n0:Int),(p0:Int),(q0:Int),(m0:Int),l0,(r0:Int),(o0:Int),⟨⟩⟩,⟨(t0:Int),(v0:Int),(w0:Int),(s0:Int),k0,(x0:Int),(u0:Int),⟨⟩⟩,⟨⟩⟩:=y;obtain ⟨⟨⟨⟩,⟨⟩,⟨⟩,⟨⟩,y0,⟨⟩,⟨⟩,⟨⟩⟩,⟨⟨⟩,⟨⟩,⟨⟩,⟨⟩,z0,⟨⟩,⟨⟩,⟨⟩⟩,⟨⟩⟩:=k
 try dsimp only [fT]
 obtain ⟨e1,e2,e3,e4,e5,e6,e7,hl⟩:=(show t0=n0∧v0=p0∧w0=q0∧s0=m0∧k0=l0∧x0=r0∧u0=o0∧l0.length≤4096 from hp);subst e1 e2 e3 e4 e5 e6 e7;have h8:sC () ((k0,()),(k0,()),()):=⟨rfl,hl⟩;simp only [cl]
 (repeat' (first|exact h8|exact absurd trivial (by assumption)|exact (by assumption:False).elim|(refine And.intro ?_ ?_)|intro _))
 all_goals first|(exfalso;omega)|omega|trivial|rfl|(simp only [aL,aT,aU];omega)|exact h8|exact absurd trivial (by assumption)|exact (by assumption:False).elim
noncomputable def IF:=fO.rd 182 XC
def nY(x:(Unit))(y:((Int×Int×Int×Int×List (Row [.int .u8])×Int×Int×Unit)×Unit)):Prop:=BX y.1.1 y.1.2.1 y.1.2.2.1 y.1.2.2.2.1 y.1.2.2.2.2.1 y.1.2.2.2.2.2.1 y.1.2.2.2.2.2.2.1
def da(x:(Unit))(y:((Int×Int×Int×Int×List (Row [.int .u8])×Int×Int×Unit)×Unit)):((Unit×Unit)×Unit):=(((),()),())
noncomputable def UF:RC:=qR [false] [] [(true,[.int .i64,.int .u32,.int .u16,.int .u16,.im [.int .u8],.int .u32,.int .i64])] [(false,[.cl (.bool true)])] nY da
def Q6I(a:eL)(b:ck)(c:iT):Prop:=Q5m (false=true) a b (da a c)
def Ue(a:iT):Bool:=decide ((-1000:Int)≤(Q5J a))
def Q6M(a:iT)(b:eL)(c:ck)(d:Prop):Prop:=Q0 (decide ((Q5J a)≤(1000:Int))) (Ql (a.1.1 !=(3:Int)) (Q5m ((decide ((0:Int)<(Qa a.1.2.2.2.2.1)))=true) b c (da b a)) d) (Q6I b c a)
def Q6B(a:iT)(b:eL)(c:ck)(d:Prop):Prop:=Q3 (Ue a) (Q6M a b c d)
def Q6C(a:eL)(b:ck)(c:iT):Prop:=Q5m (true=true) a b (da a c)
def Q6z(a:iT):Io:=(Fz a,L4 a,a.1.2.2.2.2.1,KM a,Q5J a,())
def Bt(a:iT)(b:Int)(c:Io)(d:B7)(e:Prop)(f:eL)(g:ck)(i:Prop):Prop:=K7 (a.1.1==b) (we () ((a.1.1,a.1.2.1,c),d,())) (eO () (Uy a)) e (Q4 (Ue a) (Q6I f g a)) i
def Q6A(a:iT):B7:=(a.1.1,a.1.2.1,Q5R)
def Q6F(a:iT)(b:Io)(c:Prop)(d:eL)(e:ck)(f:Prop):Prop:=Bt a (5:Int) b (a.1.1,(0:Int),(0:Int),L4 a,Q5S (0:Int)) c d e f
def Q6G(a:iT)(b:Io)(c:Prop)(d:eL)(e:ck)(f:Prop):Prop:=Bt a (6:Int) b (a.1.1,(0:Int),Fz a,(0:Int),Q5S (Q5J a)) c d e f
def Wf(a:iT)(b:B7):Prop:=we () ((a.1.1,a.1.2.1,Q6z a),b,())
def Q6H(a:iT)(b:Prop)(c:eL)(d:ck):Prop:=Qn (Wf a (WA a.1.1)) (eO () (Uy a)) b (Q4 (Ue a) (Q6I c d a))
def Q6J(a:Int):Bool:=a==(1:Int)
def Q6E(a:iT)(b:Io)(c:Prop)(d:eL)(e:ck)(f:Prop):Prop:=Bt a (4:Int) b (a.1.1,(0:Int),Fz a,(0:Int),Q5T (KM a,(0:Int),())) c d e f
def Q6x(a:iT):Bool:=decide ((7:Int)<a.1.1)
def Si(a:iT):Int×List (Row [Kd.int IntKind.u8])×Int×Int×Unit:=(L4 a,a.1.2.2.2.2.1,(0:Int),(0:Int),())
theorem Tx:aB Tryz.prog 119 UF:=by
 refine aD (cx Mx [183,120] IF qd) Tryz.func119 (by kernel_rfl) (by kernel_rfl) rfl rfl rfl fun (x:(Unit)) h (y:((Int×Int×Int×Int×List (Row [.int .u8])×Int×Int×Unit)×Unit)) k hp=>⟨(fun bk=>match bk with|700001=>some {S:=Nat,st:=fun s=>⟨[],[]⟩,ok:=fun s=>True,mu:=fun s=>0,init:=0}|_=>none),400,af (q:=Q6g y.1.1 (Q7 (Ql (Q6x y) (Bt y (1:Int) (Q6z y) (Q6A y) (Q6B y x h (Q6C x h y)) x h (Bt y (2:Int) (Q6z y) (Q6A y) (Q6B y x h (Q6C x h y)) x h (Bt y (3:Int) (Q6z y) (y.1.1,(0:Int),Fz y,Si y) (Q6B y x h (Q6C x h y)) x h (Q6E y (Q6z y) (Q6B y x h (Q6C x h y)) x h (Q6F y (Q6z y) (Q6B y x h (Q6C x h y)) x h (Q6G y (Q6z y) (Q6B y x h (Q6C x h y)) x h (Q6H y (Q6B y x h (Q6C x h y)) x h))))))) (Q6I x h y)) (Q4 (Q6x y) (QT (Bt y (1:Int) (Q6z y) (Q6A y) (Q6B y x h (Q6C x h y)) x h (Bt y (2:Int) (Q6z y) (Q6A y) (Q6B y x h (Q6C x h y)) x h (Bt y (3:Int) (Q6z y) (y.1.1,(0:Int),Fz y,Si y) (Q6B y x h (Q14 Q44 (()=x) (()=h∧mB=da x y))) x h (Q6E y (Q6z y) (Q6B y x h (Q6C x h y)) x h (Q6F y (Q6z y) (Q6B y x h (Q6C x h y)) x h (Q6G y (Q6z y) (Q6B y x h (Q6C x h y)) x h (Q6H y (Q6B y x h (Q6C x h y)) x h))))))) (Q6J y.1.1) (Qn (Wf y (Q6A y)) (eO () (Uy y)) (Q6B y x h (Q6C x h y)) (Q4 (Ue y) (Q14 uL (()=x) (()=h∧mB=da x y)))) (Qu y.1.1 (2:Int) (Wf y (Q6A y)) (eO () (Uy y)) (Q0 (Ue y) (Q6M y x h (Q6C x h y)) (Q6I x h y)) (Bt y (3:Int) (Q6z y) (y.1.1,(0:Int),Fz y,Si y) (Q6B y x h (Q6C x h y)) x h (Q6E y (Q6z y) (Q6B y x h (Q6C x h y)) x h (Q6F y (Q6z y) (Q6B y x h (Q6C x h y)) x h (Q6G y (Q6z y) (Q6B y x h (Q6C x h y)) x h (Q6H y (Q6B y x h (Q6C x h y)) x h)))))))) (Q3 (Q6x y) (Q6I x h y))) (Q6I x h y)) (by kernel_rfl) ?_⟩
 delta Q7 Q6 Qn Q3 Qk Q4 Q5 Q0 mB QK Q5J Q1 Q5m Qa KM K7 Q6I Ql L4 Q5T Q5S Fz Q5R Ue Q6M Q6B WA kS Q6C Qu Q14 Q6z QT uL Uy Bt Q6A Q6F Q6G Wf Q6H Q44 Q6g Q6J Q6E Q6x Si;obtain ⟨⟨⟩⟩:=x;obtain ⟨⟨⟩⟩:=h;obtain ⟨⟨(m0:Int),(o0:Int),(p0:Int),(l0:Int),k0,(q0:Int),(n0:Int),⟨⟩⟩,⟨⟩⟩:=y;obtain ⟨⟨⟨⟩,⟨⟩,⟨⟩,⟨⟩,r0,⟨⟩,⟨⟩,⟨⟩⟩,⟨⟩⟩:=k
 try dsimp only [da]
 obtain ⟨hz,hl,hl0,hl1,hk⟩:=(show BX m0 o0 p0 l0 k0 q0 n0 from hp);have hf8:eO () ((k0,()),()):=⟨hz,hl⟩;have hl':k0.length≤4096:=by omega
 rcases hk with ⟨rfl|rfl,rfl,rfl,rfl,rfl,rfl⟩|⟨rfl,rfl,rfl,rfl,hne⟩|⟨rfl,rfl,rfl,rfl,rfl⟩|⟨rfl,rfl,rfl,rfl,rfl,rfl⟩|⟨rfl,rfl,rfl,rfl,rfl⟩
 all_goals (try have hn:=List.length_pos_iff.2 hne)
 all_goals
  simp only [cl]
  (repeat' (first|exact hf8|exact ⟨rfl,rfl,rfl,rfl,rfl,rfl,rfl,hl'⟩|exact ⟨rfl,rfl,rfl,rfl,rfl,rfl,rfl,by decide⟩|exact absurd trivial (by assumption)|(refine And.intro ?_ ?_)|intro _))
  all_goals first|(exfalso;omega)|omega|trivial|rfl|(simp only [aL,aT,aU];omega)|exact hf8|exact ⟨rfl,rfl,rfl,rfl,rfl,rfl,rfl,hl'⟩|exact ⟨rfl,rfl,rfl,rfl,rfl,rfl,rfl,by decide⟩|exact absurd trivial (by assumption)
noncomputable def EX:=IF.rd 119 Tx
end Go.Proofs.YtfdmjoddhjmokaaGreatDoor
namespace Go.Proofs.YtfdmjoddhjmokaaGreatDoor
open Go.RowKit Rex
set_option linter.unusedVariables false
set_option linter.unusedSimpArgs false
set_option maxRecDepth 100000
def yc(n k:Nat):List UInt8:=if k=0 then bY n else bY n++(0::bY n)
def zL(v:Value)(n k:Nat):Value:=if k=0 then v else qb v 1 n n
def Gv(l:List (Row [.int .u8]))(k:Nat):List (Row [.int .u8]):=if k=0 then l else []
def cq(x:(Unit))(y:((Int×Unit)×Unit)):Prop:=0≤y.1.1∧y.1.1≤18446744073709551615
def AP(x:(Unit))(y:((Int×Unit)×Unit)):((List UInt8×Unit)×Unit):=((bY y.1.1,()),())
noncomputable def a2O:RC:=qR [false] [] [(false,[.int .u64])] [(false,[.str])] cq AP
theorem a2m:aB Tryz.prog 185 a2O:=by
 refine aD (cx Mx [] EX qd) Tryz.func185 (by kernel_rfl) (by kernel_rfl) rfl rfl rfl fun (x:(Unit)) h (y:((Int×Unit)×Unit)) k hp=>⟨(fun bk=>match bk with|0=>some {S:=List (Row [.int .u8])×Int×Nat,st:=fun s=>⟨jk [(0,.v (.one (.int .u64 false (s.2.1)))),(2,.v (.one (.rs (decide (List.length s.1=0)) 0 0 0 1 0 (List.length s.1) s.2.2)))] 21,[some (.rows false (decide (List.length s.1=0)) [.int .u8] s.1 0 s.2.2 5)]⟩,ok:=fun s=>0≤s.2.1∧List.length s.1≤9∧bw s.1++kK (9-List.length s.1) s.2.1.toNat=bY y.1.1∧s.2.1.toNat*128^List.length s.1≤18446744073709551615∧List.length s.1≤s.2.2∧(List.length s.1=0→s.2.2=0),mu:=fun s=>s.2.1.toNat,init:=([],y.1.1,0)}|_=>none),400,af (q:=Q3p (RM (y.1.1=y.1.1)) (Qt y.1.1) ((0:Nat)≤(9:Nat)) (nj y) (Xp (QW y*((128:Nat)^ (0:Nat)))) ((0:Nat)≤(0:Nat)) Wl∧(∀ (va:tQ),Q4M va (Q4N va y) (∀ (vb:Nat),x9 (RF va) vb va.2.2 (Q4P (va.2.1.tdiv (128:Int))∧(∃ (vc:tQ),Q4Q (Q4R va vc vb) vc y va))) (Q7 (aL IntKind.u8 va.2.1) (Q4S va) (∀ (vb:Nat),x9 (RF va) vb va.2.2 (ta (rB (RF va)) (TW va.1 va.2.1).length (Q1 True x h (y9 (bw (TW va.1 va.2.1))=AP x y))))))) (by kernel_rfl) ?_⟩
 delta Q7 Q6 Qn kA cR Q3 ya jh Q4 Q5 cu Q0 Q23 gC iZ QK Q1 oE Qt rB Ha RH Q2a jm kS RF Q3p Nc x9 QW GW WV yI Q4W Q4V y9 Rt vY Q4P ta Q1r TW Wl Q4S Xp UZ RM Q4N Q4Q nj Q4M Q4R;obtain ⟨⟨⟩⟩:=x;obtain ⟨⟨⟩⟩:=h;obtain ⟨⟨(n:Int),⟨⟩⟩,⟨⟩⟩:=y;obtain ⟨⟨⟨⟩,⟨⟩⟩,⟨⟩⟩:=k
 try dsimp only [AP]
 obtain ⟨h0,h1⟩:=(show 0≤n∧n≤18446744073709551615 from hp);simp only [cl];refine ⟨?_,fun s a1 a2 a3 a4 a5 a6=>⟨fun hc=>?_,fun hc=>?_⟩⟩
 ·have e:n.toNat*128^0=n.toNat:=by simp
  (repeat' (refine And.intro ?_ ?_))<;>first|omega|rfl|trivial
 ·obtain ⟨A,m,c⟩:=s;dsimp only at a1 a2 a3 a4 a5 a6 hc ⊢;obtain ⟨x,rfl⟩:=Int.eq_ofNat_of_zero_le a1;have e1:(x:Int).tmod 128=((x %128:Nat):Int):=by rw [Int.tmod_eq_emod_of_nonneg (by omega)];rfl
  have e2:(x:Int).tdiv 128=((x / 128:Nat):Int):=by rw [Int.tdiv_eq_ediv_of_nonneg (by omega)];rfl
  have hx: ¬x<128:=by omega
  simp only [Int.toNat_natCast] at a3 a4;have hx2:x≤x*128^A.length:=Nat.le_mul_of_pos_right x (Nat.pow_pos (by omega))
  have hl:A.length≤8:=by
   rcases Nat.lt_or_ge A.length 9 with k|k
   ·omega
   ·have k9:A.length=9:=by omega
    rw [k9] at a4;omega
  have hp2:x / 128*128^ (A.length+1)≤x*128^A.length:=by
   rw [Nat.pow_succ,Nat.mul_comm (128^A.length) 128,←Nat.mul_assoc];exact Nat.mul_le_mul_right _ (Nat.div_mul_le_self _ _)
  have h9:9-A.length=(9-(A.length+1))+1:=by omega
  rw [h9,uR hx] at a3;rw [e1,e2,ZC (by omega) (by omega)]
  refine ⟨by simp only [aL,aT,aU];omega,⟨a6,by omega⟩,fun c' k1 k2=>⟨by simp only [aL,aT,aU];omega,(A++ [(((x %128:Nat):Int)+128,())],((x / 128:Nat):Int),c'),?_⟩⟩
  have hA:bw (A++ [(((x %128:Nat):Int)+128,())])=bw A++ [UInt8.ofNat (x %128+128)]:=by
   rw [dC];rfl
  simp only [List.length_append,List.length_cons,List.length_nil,Nat.zero_add,Bool.false_and,Int.toNat_natCast,hA]
  (repeat' (refine And.intro ?_ ?_))<;>first|omega|rfl|trivial|exact (decide_eq_false (by omega)).symm|exact List.take_of_length_le (by simp)|(intro e;omega)|(show (bw A++ [_])++_=_;rw [List.append_assoc];exact a3)
 ·obtain ⟨A,m,c⟩:=s;dsimp only at a1 a2 a3 a4 a5 a6 hc ⊢;obtain ⟨x,rfl⟩:=Int.eq_ofNat_of_zero_le a1;simp only [Int.toNat_natCast] at a3 a4;refine ⟨by simp only [aL,aT,aU];omega,⟨a6,by omega⟩,fun c' k1 k2=>⟨by simp,?_⟩⟩
  rw [nu (by omega)] at a3
  show ((bw (A++ [((x:Int),())]),()),())=((bY n,()),());rw [dC,show bw A++bw [((x:Int),())]=bY n from a3]
noncomputable def zb:=EX.rd 185 a2m
def Gi(x:(Unit))(y:((List (Row [.int .u8])×Unit)×Unit)):Prop:=y.1.1=fV (List.length y.1.1)∧0<List.length y.1.1∧List.length y.1.1≤64
def tZ(x:(Unit))(y:((List (Row [.int .u8])×Unit)×Unit))(x':(Unit))(z:((List UInt8×Unit)×(Unit×Unit)×Unit)):Prop:=z.1.1=bY (List.length y.1.1)++(0::bY (List.length y.1.1))
noncomputable def a7A:MC:=qC [false] [] [(false,[.im [.int .u8]])] [(false,[.str]),(false,[.cl (.int .i64 (0))])] Gi tZ
def Q6O(a:GF):kG:=Gv a.1.1 (0:Nat)
def wH(a:Nat)(b:Prop)(c:GF)(d:Nat)(e:Un)(f:kG)(g:Loop):Prop:=Q1I (Qs (uN a) b True) (I4 (yc (OS c) d) (yc (OS c) (0:Nat))) (zL e.1.1 (OS c) d=zL e.1.1 (OS c) (0:Nat)) (f=Q6O c) (g=g∧jh)
def Q6N(a:eL)(b:Int):Prop:=cq a (Qg b)
def Wz(a:Nat):Prop:=a≤(9223372036854775807:Nat)
def Q6S(a b:gz):Prop:=Wz (a.length+b.length)
def Q6T(a:GF):kG:=Q4V ((al (Q6O a) (0:Nat)).1,())
def Q6Q(a:Loop)(b:Nat)(c:GF)(d e:Prop):Prop:=H8 (a=a) (a=a) (Q4P (↑b:Int)) (Q6N () (↑b:Int)) (Q6S (bw (Q6T c)) (bY (↑b:Int))) (Q6S (yc (OS c) (0:Nat)) ((bw (Q6T c)).append (bY (↑b:Int)))) d (D8 (↑b:Int) (Qa (Q6O c))) e
def Q6R(a:Nat)(b:GF)(c d:Nat)(e:Value)(f:Un)(g:kG)(i:Loop):Prop:=Q1I (Q6j a) (I4 ((yc (OS b) (0:Nat)).append ((bw (Q6T b)).append (bY (↑c:Int)))) (yc (OS b) d)) (e=zL f.1.1 (OS b) d) (List.drop (sY c) (Q6O b)=g) (i=i∧jh)
theorem a7o:ab Tryz.prog 123 a7A:=by
 refine ah (cx Mx [186,242] zb qd) Tryz.func123 (by kernel_rfl) (by kernel_rfl) fun (x:(Unit)) h (y:((List (Row [.int .u8])×Unit)×Unit)) k hf hg hp=>⟨(fun bk=>match bk with|1000=>some {S:=Nat,st:=fun q=>⟨jk [(1,.v (.one (.ptr 1 0)))] 33,[some (.cells [.op (dc (yc (List.length y.1.1) q))] 9),some (.cells [.gv [.int .u8] (zL k.1.1 (List.length y.1.1) q) (Gv y.1.1 q)] 68),none]⟩,ok:=fun q=>q≤1,mu:=fun q=>1-q,init:=0}|1002=>some {S:=Nat,st:=fun j=>⟨jk [(1,.v (.one (.ptr 1 0))),(1,.v (.one (.int .i64 false ((j:Int)))))] 33,[some (.cells [.op (dc (yc (List.length y.1.1) 0))] 9),some (.cells [.gv [.int .u8] (zL k.1.1 (List.length y.1.1) 0) (Gv y.1.1 0)] 68),none]⟩,ok:=fun j=>1≤j∧j≤List.length y.1.1,mu:=fun j=>List.length y.1.1-j,init:=1}|_=>none),400,af (q:=Qn (eO () ((y.1.1,()),())) (Q4P (Xu y)) (Q6N () (Xu y)) (∀ (va:Nat) (vb:Loop),W9 (Q1I (Q6j va) (I4 (bY (Xu y)) (yc (OS y) (0:Nat))) (k.1.1=zL k.1.1 (OS y) (0:Nat)) (y.1.1=Q6O y) (vb=vb∧jh)) ((0:Nat)≤(1:Nat)) (∀ (vc:Nat),kQ (vc≤(1:Nat)) (decide ((0:Int)<(Qa (Gv y.1.1 vc)))) (Q7 (wH va ((1:Int)=(↑(1:Nat):Int)) y vc k (Gv y.1.1 vc) vb) ((1:Nat)≤(1:Nat)) ((1:Nat)≤OS y)) (∀ (vd:Nat),(1:Nat)≤vd∧vd≤OS y→QK (WK vd (Q6O y)) (kS (WK vd (Q6O y))) (Q4C vd (Qa (Q6O y))) (Q1a (F7 vd (Q6O y).length) (Q5f (Qa (Q6O y))) (D7 (Q6O y).length) (Q5l (Q6O y) vd==(al (Q6O y) (0:Nat)).1) (Na vd (∃ (ve:Nat),Q2D (Q7 (wH va (ku vd ve) y (0:Nat) k (Q6O y) vb) ((1:Nat)≤ve) (ve≤OS y)) (OS y) ve (OS y) vd)) (Q23 (Q5f (Qa (Q6O y))) (D7 (Q6O y).length) va va (Q6Q vb vd y (vb=vb) (∃ (ve:Nat),MG (Q6R va y vd ve (qb (zL k.1.1 (OS y) (0:Nat)) (1:Nat) (sY vd) (Q6O y).length) k (Gv y.1.1 ve) vb) (ve≤(1:Nat)) (1:Nat) ve vc)))) (cu (Q18 (WK vd (Q6O y))) (Q5f (Qa (Q6O y))) (D7 (Q6O y).length) va va (Q6Q vb vd y (vb=vb) (∃ (ve:Nat),MG (Q6R va y vd ve (qb (zL k.1.1 (OS y) (0:Nat)) (1:Nat) (sY vd) (Q6O y).length) k (Gv y.1.1 ve) vb) (ve≤(1:Nat)) (1:Nat) ve vc)))) (Q10 lG (tZ x y () ((yc (OS y) vc,()),mB)))))) (by kernel_rfl) ?_⟩
 delta Q7 Q6 oO lG Qn kA cR Qs Q3 jh Qk Q4 cu Q0 Q23 mB QH QK Qi Qg sY yG Qt Q10 QE Qa Q4I Lh Q27 Qo RA Q2C MT uN ku kS Q1I Wz Q1a Na D8 H8 Q18 Q6O Q2D Q4V kQ OS F7 MG Q4P Q6S WK Q4C Q6j I4 Q5l Xu D7 Q6T Q5f W9 wH Q6N Q6Q Q6R;obtain ⟨⟨⟩⟩:=x;obtain ⟨⟨⟩⟩:=h;obtain ⟨⟨l,⟨⟩⟩,⟨⟩⟩:=y;obtain ⟨⟨lv,⟨⟩⟩,⟨⟩⟩:=k
 try dsimp only
 obtain ⟨hz,hn,h64⟩:=(show l=fV (List.length l)∧0<List.length l∧List.length l≤64 from hp);have hg0: ∀i,(al l i).1=0:=fun i=>by
  rw [hz];unfold fV al;rw [List.getD_eq_getElem?_getD,List.getElem?_replicate];split<;>rfl
 have hf8:eO () ((l,()),()):=⟨hz,h64⟩;have r0:Gv l 0=l:=rfl;have r1:Gv l 1= []:=rfl;have s0:yc l.length 0=bY l.length:=rfl;have v0:zL lv l.length 0=lv:=rfl;have hnl:=ee l.length;have hb:bw [((0:Int),())]= [0]:=rfl;have hpn: ∀j:Nat,j≤64→cq () (((j:Int),()),()):=fun j hj=>⟨by show (0:Int)≤j;omega,by show (j:Int)≤_;omega⟩
 simp only [cl];simp only [r0,s0,v0,hg0,hb,eq_self_iff_true,true_and,and_true,and_self,and_imp,true_implies,implies_true,forall_const,List.take_length,decide_eq_true_eq,decide_eq_false_iff_not,beq_iff_eq,beq_eq_false_iff_ne,bne_iff_ne,bne_eq_false_iff_eq,Bool.not_eq_true',Bool.not_eq_false',ne_eq,not_true_eq_false,not_false_eq_true,show (OfNat.ofNat (0:Nat):Int)=0 from rfl,Int.toNat_natCast];refine ⟨hf8,by simp only [aL,aT,aU];omega,hpn _ h64,by omega,fun k hk=>⟨fun h1=>?_,fun h1=>?_⟩⟩
 ·obtain rfl:k=0:=by
   rcases Nat.eq_zero_or_pos k with e|e
   ·exact e
   ·obtain rfl:k=1:=by omega
    rw [r1] at h1;exact absurd h1 (by simp)
  refine ⟨⟨⟨rfl,rfl,rfl,rfl⟩,by omega,by omega⟩,fun j hj1 hj2=>⟨fun h2=>⟨h2,⟨by omega,h2⟩,by omega,⟨by omega,by omega⟩,hn,⟨by simp only [aL,aT,aU];omega,j+1,by omega⟩,fun h=>h.elim⟩,fun h2=>?_⟩⟩
  obtain rfl:j=l.length:=by omega
  have e1:([0]:List UInt8).length=1:=rfl;have e2:(([0]:List UInt8).append (bY l.length)).length=1+(bY l.length).length:=by show (([0]:List UInt8)++bY l.length).length=_;rw [List.length_append,e1]
  exact ⟨h2,⟨by omega,by omega⟩,hn,by simp only [aL,aT,aU];omega,hpn _ h64,by omega,by omega,⟨by omega,by omega⟩,1,⟨⟨rfl,rfl,by rw [List.drop_length];rfl⟩,by omega⟩,by omega⟩
 ·obtain rfl:k=1:=by
   rcases Nat.eq_zero_or_pos k with e|e
   ·subst e;rw [r0] at h1;omega
   ·omega
  exact rfl
noncomputable def RX:=qd.add 123 a7o
end Go.Proofs.YtfdmjoddhjmokaaGreatDoor
namespace Go.Proofs.YtfdmjoddhjmokaaGreatDoor
open Go.RowKit Rex
set_option linter.unusedVariables false
set_option linter.unusedSimpArgs false
set_option maxRecDepth 100000
theorem mO(x:Row [.int .u8])(l:List (Row [.int .u8])):bw (x::l)=oM x::bw l:=rfl
theorem a0L(x:Int×Unit)(l:List (Int×Unit)):bw (@List.cons (Int×Unit) x l)=oM x::bw l:=rfl
theorem a1c:bw (@List.nil (Int×Unit))= []:=rfl
theorem a1a(a b:List (Int×Unit)):bw (@HAppend.hAppend (List (Int×Unit)) (List (Int×Unit)) _ _ a b)=bw a++bw b:=dC a b
theorem a1P:bw []= []:=rfl
theorem pw(l:List UInt8):bw (l.map (fun b=>((b.toNat:Int),())))=l:=by
 induction l with
 |nil=>rfl
 |cons a t ih=>rw [List.map_cons,mO,ih];exact congrArg (· ::t) (UInt8.toNat_inj.1 (by show (UInt8.ofNat (Int.toNat (a.toNat:Int))).toNat=_;rw [Int.toNat_natCast,UInt8.toNat_ofNat'];exact Nat.mod_eq_of_lt a.toNat_lt))
theorem qp(l:List UInt8):bw (@List.map UInt8 (Int×Unit) (fun b=>((b.toNat:Int),())) l)=l:=pw l
theorem wU8 {n:Int}(h:0≤n):oM (IntKind.u8.wrap n,())=UInt8.ofNat (n.toNat %256):=by
 show UInt8.ofNat (IntKind.u8.wrap n).toNat=_;rw [show IntKind.u8.wrap n=((n.toNat %256:Nat):Int) by show n %256=_;omega,Int.toNat_natCast]
theorem Gm {n:Int}(h:0≤n):kI n= [oM (IntKind.u8.wrap (n / 16777216),()),oM (IntKind.u8.wrap (n / 65536),()),oM (IntKind.u8.wrap (n / 256),()),oM (IntKind.u8.wrap n,())]:=by
 rw [wU8 h,wU8 (by omega),wU8 (by omega),wU8 (by omega)]
 unfold kI;rw [show (n / 16777216).toNat=n.toNat / 16777216 by omega,show (n / 65536).toNat=n.toNat / 65536 by omega,show (n / 256).toNat=n.toNat / 256 by omega]
theorem UG {n:Int}(h:0≤n):fM n= [oM (IntKind.u8.wrap (n / 256),()),oM (IntKind.u8.wrap n,())]:=by
 rw [wU8 h,wU8 (by omega)]
 unfold fM;rw [show (n / 256).toNat=n.toNat / 256 by omega]
def tlb(a:Int):List UInt8:=bw [(IntKind.u8.wrap (a / 16777216),()),(IntKind.u8.wrap (a / 65536),()),(IntKind.u8.wrap (a / 256),()),(IntKind.u8.wrap a,())]
theorem AF {n:Int}(h:0≤n):tlb n=kI n:=(Gm h).symm
theorem jv(n:Int):(kI n).length=4:=rfl
theorem abU {n:Int}(h0: -60≤n)(h1:n≤60):IntKind.u64.wrap ((BitVec.ofInt 64 (IntKind.u64.wrap (IntKind.i64.wrap (n*2))) ^^^ BitVec.ofInt 64 (IntKind.u64.wrap (n / 9223372036854775808))).toNat:Int)=zz n:=by
 obtain ⟨k,hk⟩:=Int.eq_ofNat_of_zero_le (show 0≤n+60 by omega)
 obtain rfl:n=(k:Int)-60:=by omega
 exact (by decide: ∀k:Fin 121,IntKind.u64.wrap ((BitVec.ofInt 64 (IntKind.u64.wrap (IntKind.i64.wrap (((k.val:Int)-60)*2))) ^^^ BitVec.ofInt 64 (IntKind.u64.wrap (((k.val:Int)-60)/ 9223372036854775808))).toNat:Int)=zz ((k.val:Int)-60)) ⟨k,by omega⟩
def wa(x:(Unit))(y:((Int×Int×Int×Int×List (Row [.int .u8])×Int×Int×Unit)×Unit)):Prop:=BX y.1.1 y.1.2.1 y.1.2.2.1 y.1.2.2.2.1 y.1.2.2.2.2.1 y.1.2.2.2.2.2.1 y.1.2.2.2.2.2.2.1∧(0≤y.1.2.1∧y.1.2.1≤4294967295)∧(0≤y.1.2.2.1∧y.1.2.2.1≤65535)∧(0≤y.1.2.2.2.1∧y.1.2.2.2.1≤65535)∧(0≤y.1.2.2.2.2.2.1∧y.1.2.2.2.2.2.1≤4294967295)
def gK(x:(Unit))(y:((Int×Int×Int×Int×List (Row [.int .u8])×Int×Int×Unit)×Unit))(x':(Unit))(z:((List UInt8×Unit)×(Unit×Unit)×Unit)):Prop:=z.1.1=pkM y.1.1 y.1.2.1 y.1.2.2.1 y.1.2.2.2.1 (List.length y.1.2.2.2.2.1) y.1.2.2.2.2.2.1 y.1.2.2.2.2.2.2.1
noncomputable def Y2:MC:=qC [false] [] [(true,[.int .i64,.int .u32,.int .u16,.int .u16,.im [.int .u8],.int .u32,.int .i64])] [(false,[.str]),(false,[.cl (.int .i64 (0))])] wa gK
abbrev gW:Type:=UInt8
abbrev VI:Type:=eZ [(false,[Sp.str]),(false,[Sp.cl (Lc.int IntKind.i64 (0:Int))])]
abbrev UJ:Type:=aZ [(false,[Sp.str]),(false,[Sp.cl (Lc.int IntKind.i64 (0:Int))])]
abbrev gI:Type:=List (Int×Unit)
def Q7z(a:Int):gI:= [(IntKind.u8.wrap a,())]
def zy(a:gI)(b:Int):gI:=a.append (Q7z b)
def Q6Z(a:gI)(b c d e:Int):gI:=zy (zy a (b / c)) (d / e)
def D2(a:gI)(b:Int):gI:=Q6Z a b (256:Int) b (1:Int)
def pV(a:iT)(b:Int):gI:=D2 (((80:Int),())::Q7z a.1.1) b
def LU(a:iT):gI:=pV a a.1.2.2.1
def H3(a:gI)(b:Int):gI:=D2 (Q6Z a b (16777216:Int) b (65536:Int)) b
def tO(a:Int)(b:iT):gz:=bw (H3 (((80:Int),())::Q7z a) b.1.2.1)
def RE(a b:Prop):Prop:=uI True (cR JY JY) a b
def Q76(a:iT):Int:=iN (tO a.1.1 a)
def Q75(a b:Int)(c:kG):kG:=(IntKind.u8.wrap (a / b),())::c
def Q7o(a:iT):gz:=bw (H3 (LU a) (KM a))
def Q7k(a:iT)(b:gI):gI:=(D2 (LU a) (L4 a)).append b
def Q77(a:gz)(b:Int)(c:kG):kG:=Q75 (iN a) b c
def Q7v(a:iT)(b:gI):gz:=bw ((LU a).append b)
def Q7q(a:iT):gz:=bw (pV a (L4 a))
def Q7A(a b c:Nat)(d:Prop)(e:Bool)(f g:Prop):Prop:=Q6 (a=b) (c=c) d (gC e c) f∧g
def Q7h(a:Nat)(b:gI)(c:Nat)(d e:Prop):Prop:=Q7A a b.length c QJ false d e
def ZE(a:Int):Int:=IntKind.i64.wrap a
def KG(a:Int):Int:=F2 ((BitVec.ofInt (64:Nat) (Q5b (ZE (a*(2:Int))))) ^^^ (BitVec.ofInt (64:Nat) (Q5b (a / (9223372036854775808:Int)))))
def Q7u(a:iT):gz:=bY (KG (Q5J a))
def Q70(a:iT):gI:=((80:Int),())::Q7z a.1.1
def Q7l(a:gW):Int×Unit:=((↑a.toNat:Int),())
def Q7c(a:iT)(b:Int):gI:=zy (Q70 a) (b / (256:Int))
def Q7x(a:eL)(b:iT):gz:=bw (((80:Int),a)::jm b.1.1)
def Q79(a:iT)(b:Int):gz:=bw (Q75 (Q76 a) (16777216:Int) (Q75 (Q76 a) (65536:Int) (Q75 (Q76 a) (256:Int) (jm b))))
def Q78(a:gI)(b:Int):gI:=zy (Q6Z a b (65536:Int) b (256:Int)) (b / (1:Int))
def H6(a:Nat)(b:gI)(c:Prop):Prop:=(3:Nat)≤a→Q7h (3:Nat) b a ((4:Nat)≤(140737488355328:Nat)) c
def Q7j(a:Sp.Ts (false,[Sp.str]).snd):Nat:=List.length a.1
def Cx(a b c:Nat)(d:gI)(e:Prop):Prop:=Q2a a b c (Q7h a d b ((5:Nat)≤(140737488355328:Nat)) e)
def Rs(a b c:Nat)(d:gI)(e:Prop):Prop:=Q2a a b c (Q7h a d b ((6:Nat)≤(140737488355328:Nat)) e)
def sQ(a:iT)(b:Int):gI:=zy (Q70 a) (b / (16777216:Int))
def Q7w(a:iT)(b c d e:gI):gz:=bw (Q77 (Q7v a b) (16777216:Int) (Q77 (Q7v a c) (65536:Int) (Q77 (Q7v a d) (256:Int) (jm (iN (Q7v a e))))))
def yR(a:iT):gz:=bw (Q77 (Q7q a) (16777216:Int) (Q77 (Q7q a) (65536:Int) (Q77 (Q7q a) (256:Int) (jm (iN (Q7q a))))))
def Q7t(a:iT):Nat:=(4:Nat)+(Q7u a).length
def Uf(a b c:gz)(d:eL)(e:iT)(f g:gz):Prop:=K5 (mh () (y9 a)) (Q6S b c) lG (gK d e () ((f.append g,()),mB))
def Q71(a b:Nat)(c:iT)(d:Prop):Prop:=Rs (5:Nat) a b (zy (Q6Z (Q70 c) c.1.2.1 (16777216:Int) c.1.2.1 (65536:Int)) (c.1.2.1 / (256:Int))) d
def Q6V:Prop:=((0:Nat)<(1:Nat))∧((3:Nat)≤(140737488355328:Nat))
def Q7b(a:iT)(b:Int)(c d:Prop):Prop:=Qu a.1.1 b ((2:Nat)=(2:Nat)) Q6V c d
def Q7m(a:iT)(b:gI):gz:=bw ((zy (Q6Z (Q7c a (Fz a)) (Fz a) (1:Int) (L4 a) (256:Int)) (L4 a / (1:Int))).append b)
def Q7n(a:iT):gI:=Q6Z (Q7c a (Fz a)) (Fz a) (1:Int) (KM a) (16777216:Int)
def VW(a:iT):gz:=bw (Q77 (Q7x () a) (16777216:Int) (Q77 (Q7x () a) (65536:Int) (Q77 (Q7x () a) (256:Int) (jm (iN (Q7x () a))))))
def RO(a:gz):Prop:=mh () (y9 a)
theorem Z6:ab Tryz.prog 65 Y2:=by
 refine ah (cx Mw [120,122,121,125,187,124] zb RX) Tryz.func65 (by kernel_rfl) (by kernel_rfl) fun (x:(Unit)) h (y:((Int×Int×Int×Int×List (Row [.int .u8])×Int×Int×Unit)×Unit)) k hf hg hp=>⟨bK,400,af (q:=QT (nY () ((y.1.1,y.1.2.1,Q6z y),())) (Q6J y.1.1) (Q7 ((2:Nat)=(2:Nat)) Q6V (∀ (va:Nat),H6 va (sQ y y.1.2.1) (∀ (vb:Nat),Cx (4:Nat) vb va (Q6Z (Q70 y) y.1.2.1 (16777216:Int) y.1.2.1 (65536:Int)) (∀ (vc:Nat),Q71 vc vb y (∀ (vd:Nat),Q2a (6:Nat) vd vc (ta (6:Nat) (H3 (Q70 y) y.1.2.1).length (Uf (tO y.1.1 y) (tO y.1.1 y) (bw (Q75 (Q76 y) (16777216:Int) (Q77 (bw (Q78 (sQ y y.1.2.1) y.1.2.1)) (65536:Int) (Q75 (Q76 y) (256:Int) (jm (Q76 y)))))) x y (tO y.1.1 y) (Q79 y (iN (bw (Q78 (sQ y y.1.2.1) y.1.2.1))))))))))) (Qu y.1.1 (2:Int) ((2:Nat)=(2:Nat)) Q6V (∀ (va:Nat),H6 va (sQ y y.1.2.1) (∀ (vb:Nat),Cx (4:Nat) vb va (Q6Z (Q70 y) y.1.2.1 (16777216:Int) y.1.2.1 (65536:Int)) (∀ (vc:Nat),Q71 vc vb y (∀ (vd:Nat),Q2a (6:Nat) vd vc (QC ((6:Nat)=(H3 (Q70 y) y.1.2.1).length) (RO (tO y.1.1 y)) (Q6S (tO y.1.1 y) (Q79 y (Q76 y))) (lG∧gK x y () (((tO y.1.1 y).append (Q79 y (Q76 y)),()),mB))))))) (Q7b y (3:Int) (∀ (va:Nat),H6 va (Q7c y (Fz y)) (∀ (vb:Nat),Cx (4:Nat) vb va (LU y) (∀ (vc:Nat),Rs (5:Nat) vc vb (zy (LU y) (L4 y / (256:Int))) (∀ (vd:Nat),Q2a (6:Nat) vd vc (Qr (Gi () (Uy y)) (∀ (ve:cI) (vf:ck) (vg:UJ) (vi:VI),RE (tZ () (Uy y) ve vg) (Q7h (6:Nat) (D2 (LU y) (L4 y)) vd (GW (((6:Nat)+Q7j vg.1)*(1:Nat))) (∀ (vj:Nat),RH ((6:Nat)+Q7j vg.1) vj (Q7j vg.1) vd (ta ((6:Nat)+Q7j vg.1) (Q7k y (List.map (fun (vl:gW)=>Q7l vl) vg.1.1)).length (Uf (bw (Q7k y (List.map (fun (vl:gW)=>Q7l vl) vg.1.1))) (Q7m y (List.map (fun (vl:gW)=>Q7l vl) vg.1.1)) (bw (Q77 (bw (Q7k y (List.map (fun (vl:gW)=>Q7l vl) vg.1.1))) (16777216:Int) (Q77 (bw (Q7k y (List.map (fun (vl:gW)=>Q7l vl) vg.1.1))) (65536:Int) (Q77 (bw (Q7k y (List.map (fun (vl:gW)=>Q7l vl) vg.1.1))) (256:Int) (jm (iN (bw (Q7k y (List.map (fun (vl:gW)=>Q7l vl) vg.1.1))))))))) x y (bw (Q7k y (List.map (fun (vl:gW)=>Q7l vl) vg.1.1))) (bw (Q77 (bw (Q7k y (List.map (fun (vl:gW)=>Q7l vl) vg.1.1))) (16777216:Int) (Q77 (bw (Q7k y (List.map (fun (vl:gW)=>Q7l vl) vg.1.1))) (65536:Int) (Q77 (bw (Q7k y (List.map (fun (vl:gW)=>Q7l vl) vg.1.1))) (256:Int) (jm (iN (Q7m y (List.map (fun (vl:gW)=>Q7l vl) vg.1.1)))))))))))))))))) (Q7b y (4:Int) (∀ (va:Nat),H6 va (Q7c y (Fz y)) (∀ (vb:Nat),Cx (4:Nat) vb va (LU y) (∀ (vc:Nat),Rs (5:Nat) vc vb (zy (LU y) (KM y / (16777216:Int))) (∀ (vd:Nat),Q2a (6:Nat) vd vc (Q7h (6:Nat) (Q6Z (LU y) (KM y) (16777216:Int) (KM y) (65536:Int)) vd ((7:Nat)≤(140737488355328:Nat)) (∀ (ve:Nat),Q2a (7:Nat) ve vd (Q7h (7:Nat) (zy (Q6Z (LU y) (KM y) (16777216:Int) (KM y) (65536:Int)) (KM y / (256:Int))) ve ((8:Nat)≤(140737488355328:Nat)) (∀ (vf:Nat),Q2a (8:Nat) vf ve (ta (8:Nat) (Q78 (Q7n y) (KM y)).length (Uf (Q7o y) (Q7o y) (bw (Q77 (Q7o y) (16777216:Int) (Q77 (Q7o y) (65536:Int) (Q77 (Q7o y) (256:Int) (jm (iN (bw (Q78 (zy (LU y) (KM y / (16777216:Int))) (KM y))))))))) x y (bw (Q78 (Q7n y) (KM y))) (bw (Q77 (Q7o y) (16777216:Int) (Q77 (Q7o y) (65536:Int) (Q77 (Q7o y) (256:Int) (jm (iN (Q7o y))))))))))))))))) (Q7b y (5:Int) (∀ (va:Nat),H6 va (Q7c y (L4 y)) (∀ (vb:Nat),Q2a (4:Nat) vb va (ta (4:Nat) (pV y (L4 y)).length (Uf (Q7q y) (Q7q y) (yR y) x y (Q7q y) (yR y))))) (Q7b y (6:Int) (∀ (va:Nat),H6 va (Q7c y (Fz y)) (∀ (vb:Nat),Q2a (4:Nat) vb va (Q7 (Q6N () (KG (Q5J y))) (Q6 ((4:Nat)=(LU y).length) (vb=vb) QJ (gC false vb) (GW (Q7t y*(1:Nat)))) (∀ (vc:Nat),RH (Q7t y) vc (Q7u y).length vb (QC (Q7t y=((LU y).append (List.map (fun (vd:gW)=>Q7l vd) (Q7u y))).length) (RO (Q7v y (List.map (fun (vd:gW)=>Q7l vd) (Q7u y)))) (Q6S (Q7v y (List.map (fun (vd:gW)=>Q7l vd) (Q7u y))) (Q7w y (List.map (fun (vd:gW)=>Q7l vd) (Q7u y)) (List.map (fun (vd:gW)=>Q7l vd) (Q7u y)) (List.map (fun (vd:gW)=>Q7l vd) (Q7u y)) (List.map (fun (vd:gW)=>Q7l vd) (Q7u y)))) (lG∧gK x y () (((Q7v y (List.map (fun (vd:gW)=>Q7l vd) (Q7u y))).append (Q7w y (List.map (fun (vd:gW)=>Q7l vd) (Q7u y)) (List.map (fun (vd:gW)=>Q7l vd) (Q7u y)) (List.map (fun (vd:gW)=>Q7l vd) (Q7u y)) (List.map (fun (vd:gW)=>Q7l vd) (Q7u y))),()),mB))))))) (Uf (Q7x () y) (Q7x () y) (VW y) x y (Q7x () y) (VW y)))))))) (by kernel_rfl) ?_⟩
 delta Q7 Q6 oO lG QC Qn kA cR Qs Q3 ya Qr Qk Q4 Q7z zy QJ Q6Z JY Q0 gC uI mB D2 QK Q5J pV Qg Q5b LU H3 K5 KM tO L4 ZE Fz RE Q76 Q75 Q7A RH Q2a jm Q7o Q7k Wz Q77 F2 Q7v Q7q Q7h KG Q7u Q70 GW Qu Q6z QT Q7l Q7c y9 Q7x Uy Q79 Q6S ta Q78 H6 Q7j Cx Rs sQ Q7w yR Q7t Uf Q71 Q6V Q7b Q7m Q6N Q7n VW Q6J RO;obtain ⟨⟨⟩⟩:=x;obtain ⟨⟨⟩⟩:=h;obtain ⟨⟨(q0:Int),(n0:Int),(o0:Int),(m0:Int),l0,(p0:Int),(k0:Int),⟨⟩⟩,⟨⟩⟩:=y;obtain ⟨⟨⟨⟩,⟨⟩,⟨⟩,⟨⟩,r0,⟨⟩,⟨⟩,⟨⟩⟩,⟨⟩⟩:=k
 try dsimp only
 obtain ⟨hM,⟨n1,n2⟩,⟨s1,s2⟩,⟨a1,a2⟩,⟨u1,u2⟩⟩:=(show BX q0 n0 o0 m0 l0 p0 k0∧(0≤n0∧n0≤4294967295)∧(0≤o0∧o0≤65535)∧(0≤m0∧m0≤65535)∧(0≤p0∧p0≤4294967295) from hp);have hr:nY () ((q0,n0,o0,m0,l0,p0,k0,()),()):=hM;obtain ⟨hz,hl,hl0,hl1,hk⟩:=hM;have w1:oM (IntKind.u8.wrap 1,())=1:=by decide
 have w2:oM (IntKind.u8.wrap 2,())=2:=by decide
 have w3:oM (IntKind.u8.wrap 3,())=3:=by decide
 have w4:oM (IntKind.u8.wrap 4,())=4:=by decide
 have w5:oM (IntKind.u8.wrap 5,())=5:=by decide
 have w6:oM (IntKind.u8.wrap 6,())=6:=by decide
 have w80:oM (80,())=80:=by decide
 have hzg:IntKind.u64.wrap ↑(BitVec.ofInt 64 (IntKind.u64.wrap (IntKind.i64.wrap (k0*2))) ^^^ BitVec.ofInt 64 (IntKind.u64.wrap (k0 / 9223372036854775808))).toNat=zz k0:=abU hl0 hl1;obtain ⟨zl0,zl1⟩:=zH hl0 hl1;have hnr:cq () ((zz k0,()),()):=⟨by show (0:Int)≤zz k0;omega,by show zz k0≤_;omega⟩
 have hnl:=ee (zz k0);have hnI:=ee (l0.length:Int);have hrun: ∀z,tZ () ((l0,()),()) () z→z.1.1=bY (l0.length:Int)++(0::bY (l0.length:Int)):=fun z h=>h;rcases hk with ⟨rfl|rfl,rfl,rfl,rfl,rfl,rfl⟩|⟨rfl,rfl,rfl,rfl,hne⟩|⟨rfl,rfl,rfl,rfl,rfl⟩|⟨rfl,rfl,rfl,rfl,rfl,rfl⟩|⟨rfl,rfl,rfl,rfl,rfl⟩
 all_goals (try have hrn:Gi () ((l0,()),()):=⟨hz,List.length_pos_iff.2 hne,hl⟩)
 all_goals
  simp only [hzg,AF (dQ _).1,jv,List.append_eq,List.cons_append,List.nil_append,List.append_assoc,mO,dC,a1P,pw,a0L,a1c,qp,a1a,List.length_cons,List.length_append,List.length_nil,List.length_map,Int.ediv_one,w1,w2,w3,w4,w5,w6,w80,Nat.mul_one,Nat.add_zero,Nat.zero_add,Nat.reduceAdd,eq_self_iff_true,true_and,and_true,and_self,and_imp,true_implies,implies_true,forall_const,List.take_length,decide_eq_true_eq,decide_eq_false_iff_not,beq_iff_eq,beq_eq_false_iff_ne,bne_iff_ne,bne_eq_false_iff_eq,Bool.not_eq_true',Bool.not_eq_false',ne_eq,not_true_eq_false,not_false_eq_true,show (OfNat.ofNat (0:Nat):Int)=0 from rfl,Int.toNat_natCast];refine ⟨hr,?_⟩
  (repeat' (first|exact hnr|exact hrn|(refine And.intro ?_ ?_)|intro _))
  all_goals (try (exfalso;omega))
  all_goals (try omega)
  all_goals (try trivial)
 all_goals (try rw [hrun _ (by assumption)])
 all_goals first
  |(change List.length _≤1000;simp only [AF (dQ _).1,jv,List.append_eq,List.cons_append,List.nil_append,List.append_assoc,mO,dC,a1P,pw,a0L,a1c,qp,a1a,List.length_cons,List.length_append,List.length_nil,List.length_map,Int.ediv_one,w1,w2,w3,w4,w5,w6,w80,Nat.mul_one,Nat.add_zero,Nat.zero_add,Nat.reduceAdd];omega)
  |(change _=pkM _ _ _ _ _ _ _;unfold pkM;simp only [if_true,if_false,Int.reduceEq];simp only [G9,v8,zx,Ae,Fx,uU,dL,Gm (dQ _).1,Gm n1,UG s1,UG a1,Gm u1,AF (dQ _).1,jv,List.append_eq,List.cons_append,List.nil_append,List.append_assoc,mO,dC,a1P,pw,a0L,a1c,qp,a1a,List.length_cons,List.length_append,List.length_nil,List.length_map,Int.ediv_one,w1,w2,w3,w4,w5,w6,w80,Nat.mul_one,Nat.add_zero,Nat.zero_add,Nat.reduceAdd])
  |(simp only [AF (dQ _).1,jv,List.append_eq,List.cons_append,List.nil_append,List.append_assoc,mO,dC,a1P,pw,a0L,a1c,qp,a1a,List.length_cons,List.length_append,List.length_nil,List.length_map,Int.ediv_one,w1,w2,w3,w4,w5,w6,w80,Nat.mul_one,Nat.add_zero,Nat.zero_add,Nat.reduceAdd];omega)
  |skip
noncomputable def mH:=RX.add 65 Z6
end Go.Proofs.YtfdmjoddhjmokaaGreatDoor
namespace Go.Proofs.YtfdmjoddhjmokaaGreatDoor
open Go.RowKit Rex
set_option linter.unusedVariables false
set_option linter.unusedSimpArgs false
set_option maxRecDepth 100000
abbrev JW:Sp:= .pt 289 [.str,.bool]
abbrev jK:Type:=(List UInt8×Bool×Unit)
def jP(s:List UInt8):List (Row [.int .u8]):=s.map (fun b=>((b.toNat:Int),()))
theorem tq(s:List UInt8):(jP s).length=s.length:=by unfold jP;exact List.length_map _
theorem DA {s:List UInt8} {i:Nat}(h:i<s.length):(al (jP s) i).1=((s.getD i 0).toNat:Int):=by
 unfold jP al;rw [List.getD_eq_getElem?_getD,List.getD_eq_getElem?_getD,List.getElem?_map,List.getElem?_eq_getElem h];rfl
theorem Lt(l:List UInt8): ∀i,iP l i<256^i
 |0=>by simp [iP]
 |i+1=>by
  have h:=Lt l i;have hb:=(l.getD i 0).toNat_lt;rw [iP,Nat.pow_succ];omega
theorem a3q {b c:Int}(hb:0≤b)(hb2:b≤255)(hc:0≤c)(hc2:c≤255):IntKind.u16.wrap ((BitVec.ofInt 16 (IntKind.u16.wrap (b*256)) ||| BitVec.ofInt 16 (IntKind.u16.wrap c)).toNat:Int)=b*256+c:=by
 rw [dn (n:=b*256) (by simp only [aL,aT,aU];omega),dn (n:=c) (by simp only [aL,aT,aU];omega)]
 exact orW (i:=8) hb hc (by omega) (by simp only [aL,aT,aU];omega) (by omega)
theorem a3F {b c:Int}(hb:0≤b)(hb2:b≤16777215)(hc:0≤c)(hc2:c≤255):IntKind.u32.wrap ((BitVec.ofInt 32 (IntKind.u32.wrap (b*256)) ||| BitVec.ofInt 32 (IntKind.u32.wrap c)).toNat:Int)=b*256+c:=by
 rw [dn (n:=b*256) (by simp only [aL,aT,aU];omega),dn (n:=c) (by simp only [aL,aT,aU];omega)]
 exact orW (i:=8) hb hc (by omega) (by simp only [aL,aT,aU];omega) (by omega)
def EN(x:(Unit))(y:((Int×Unit)×Unit)):Prop:=True
def wo(x:(Unit))(y:((Int×Unit)×Unit)):((List UInt8×Unit)×Unit):=((tlb y.1.1,()),())
noncomputable def Zc:RC:=qR [false] [] [(false,[.int .u32])] [(false,[.str])] EN wo
theorem Zo:aB Tryz.prog 187 Zc:=by
 refine aD (cx Mw [] zb mH) Tryz.func187 (by kernel_rfl) (by kernel_rfl) rfl rfl rfl fun (x:(Unit)) h (y:((Int×Unit)×Unit)) k hp=>⟨bK,400,af (q:=Q1 True x h (y9 (bw (Q75 y.1.1 (16777216:Int) (Q75 y.1.1 (65536:Int) (Q75 y.1.1 (256:Int) (jm y.1.1)))))=wo x y)) (by kernel_rfl) ?_⟩
 delta Q7 Q6 Q5 Q1 Q75 jm y9;obtain ⟨⟨⟩⟩:=x;obtain ⟨⟨⟩⟩:=h;obtain ⟨⟨(n:Int),⟨⟩⟩,⟨⟩⟩:=y;obtain ⟨⟨⟨⟩,⟨⟩⟩,⟨⟩⟩:=k
 try dsimp only [wo]
 exact ⟨trivial,trivial,rfl,rfl,rfl⟩
noncomputable def Ib:=zb.rd 187 Zo
def wG(x:(Unit))(y:((List UInt8×Unit)×Unit)):Prop:=4≤List.length y.1.1∧List.length y.1.1≤1000∧tlb (iN (List.take (y.1.1.length-4) y.1.1))=List.drop (y.1.1.length-4) y.1.1
def mN(x:(Unit))(y:((List UInt8×Unit)×Unit)):((List UInt8×Unit)×(Unit×Unit)×Unit):=((List.take (y.1.1.length-4) y.1.1,()),((),()),())
noncomputable def XT:RC:=qR [false] [] [(false,[.str])] [(false,[.str]),(false,[.cl (.int .i64 (0))])] wG mN
def Bq(a:kJ):Int:=Q4B a-(4:Int)
def Q7D(a:kJ):gz:=List.take (Bq a).toNat a.1.1
def Q7E(a:kJ):Bool:= !(tlb (iN (Q7D a))==List.drop (Bq a).toNat a.1.1)
theorem XU:aB Tryz.prog 157 XT:=by
 refine aD (cx Mx [] Ib mH) Tryz.func157 (by kernel_rfl) (by kernel_rfl) rfl rfl rfl fun (x:(Unit)) h (y:((List UInt8×Unit)×Unit)) k hp=>⟨bK,400,af (q:=QT (QS (Q4B y) (4:Int)) (decide ((Bq y)<(0:Int))) (Q14 (oO (3:Int)) (()=x) (()=h∧Hi=mN x y)) (D8 (Bq y) (Q4B y)∧Q1a (RO (Q7D y)) (EN () (Qg (iN (Q7D y)))) (D8 (Bq y) (Q4B y)) (Q7E y) (Q1 (oO (15:Int)) x h (Hi=mN x y)) (D8 (Bq y) (Q4B y)∧Q1 lG x h (((Q7D y,()),mB)=mN x y)))) (by kernel_rfl) ?_⟩
 delta Q7 Q6 oO lG Qn Q3 Qk Q4 Q5 mB Qi Q1 Qg Qt Q4x Q4B Q1a QS D8 Q14 QT y9 Bq Q7D RO Hi Q7E;obtain ⟨⟨⟩⟩:=x;obtain ⟨⟨⟩⟩:=h;obtain ⟨⟨s,⟨⟩⟩,⟨⟩⟩:=y;obtain ⟨⟨⟨⟩,⟨⟩⟩,⟨⟩⟩:=k
 try dsimp only [mN]
 obtain ⟨h4,hl,he⟩:=(show 4≤List.length s∧List.length s≤1000∧tlb (iN (List.take (s.length-4) s))=List.drop (s.length-4) s from hp);have en:((s.length:Int)-4).toNat=s.length-4:=by omega
 have had:=dQ (List.take (s.length-4) s);simp only [cl];simp only [en,he]
 (repeat' (first|(refine And.intro ?_ ?_)|intro _))
 all_goals first|(exfalso;omega)|omega|trivial|rfl|(simp only [aL,aT,aU];omega)|(change List.length (List.take _ _)≤1000;rw [List.length_take];omega)|exact absurd trivial (by assumption)
noncomputable def IG:=Ib.rd 157 XU
def eJ(x:(Unit))(y:((List UInt8×Unit)×Unit)):Prop:=0<List.length y.1.1∧cG y.1.1 0<128
def cU(x:(Unit))(y:((List UInt8×Unit)×Unit)):((Int×Unit)×(Unit×Unit)×(Unit×Unit)×Unit):=((cG y.1.1 0,()),((),()),((),()),())
noncomputable def KX:RC:=qR [false] [] [(false,[.str])] [(false,[.int .u64]),(false,[.cl (.int .i64 (1))]),(false,[.cl (.int .i64 (0))])] eJ cU
theorem KS:aB Tryz.prog 223 KX:=by
 refine aD (cx Mx [] IG mH) Tryz.func223 (by kernel_rfl) (by kernel_rfl) rfl rfl rfl fun (x:(Unit)) h (y:((List UInt8×Unit)×Unit)) k hp=>⟨(fun bk=>match bk with|0=>some {S:=Nat,st:=fun q=>⟨jk [(0,.v (.one (.op (dc y.1.1)))),(4,.v (.one (.int .u64 true 0))),(4,.v (.one (.int .i64 false ((List.length y.1.1:Int))))),(0,.v (.one (.int .i64 true 0)))] 59,[]⟩,ok:=fun q=>True,mu:=fun q=>0,init:=0}|_=>none),400,af (q:=Q50 y lG lG (∀ (va:Nat),ra y x h (cU x y) (Qz ((0:Int)≤(0:Int)) ((0:Int)<Q4B y) (Q3 (Rl y) (Q53 y x h (cU x y) (∃ (vb:Nat),GX y) (Wv y x h (cU x y) (∃ (vb:Nat),GX y)))) (Q4 (Rl y) (Wv y x h (cU x y) (∃ (vb:Nat),GX y)))))) (by kernel_rfl) ?_⟩
 delta Q7 Q6 oO lG Qn Q3 ya Qk Q4 Q5 Q0 mB Q2B Q1 Q5b Q5e Q57 Rr K7 Q4x LP Q4I Lh Q5d Q4B Q2m Qz gk Q1a F2 Kl Ea CW yq Qm Rl WJ Q50 GX Q4P Vl Wv Q5f Q53 ra;obtain ⟨⟨⟩⟩:=x;obtain ⟨⟨⟩⟩:=h;obtain ⟨⟨s,⟨⟩⟩,⟨⟩⟩:=y;obtain ⟨⟨⟨⟩,⟨⟩⟩,⟨⟩⟩:=k
 try dsimp only [cU]
 obtain ⟨h0,b2⟩:=(show 0<List.length s∧cG s 0<128 from hp);have b1:=Ky s 0;have e1:(cG s 0).tmod 128=cG s 0:=by rw [Int.tmod_eq_emod_of_nonneg (by omega)];omega
 have e2:cG s 0*1 / 1=cG s 0:=by omega
 have e3:cG s 0*1=cG s 0:=by omega
 have e4:IntKind.u64.wrap ((BitVec.ofInt 64 0 ||| BitVec.ofInt 64 (cG s 0)).toNat:Int)=cG s 0:=or0 b1.1 (by simp only [aL,aT,aU];omega) (by omega)
 have hres:((cG s 0,()),((),()),((),()),())=cU () ((s,()),()):=rfl;simp only [cl];simp only [e1,e2,e3,e4]
 (repeat' (first|(refine And.intro ?_ ?_)|intro _))
 all_goals first|(exfalso;omega)|omega|trivial|rfl|(simp only [aL,aT,aU];omega)|exact hres|exact absurd trivial (by assumption)
noncomputable def wU:=IG.rd 223 KS
def kP(x:(Unit))(y:((List UInt8×Unit)×(Int×Unit)×Unit)):Prop:=2≤List.length y.1.1∧List.length y.1.1≤1000∧cG y.1.1 0=0∧1≤cG y.1.1 1∧cG y.1.1 1≤y.2.1.1∧y.2.1.1≤64
def fK(x:(Unit))(y:((List UInt8×Unit)×(Int×Unit)×Unit)):((Int×Unit)×(Int×Unit)×(Unit×Unit)×(Unit×Unit)×Unit):=((cG y.1.1 0,()),(cG y.1.1 1,()),((),()),((),()),())
noncomputable def OK:RC:=qR [false,false] [] [(false,[.str]),(false,[.int .i64])] [(false,[.int .u8]),(false,[.int .i64]),(false,[.cl (.int .i64 (2))]),(false,[.cl (.int .i64 (0))])] kP fK
abbrev a0V:Type:=(List UInt8×Unit)×(Int×Unit)×Unit
def Q7H:Prop:=(2:Int)=(2:Int)
def Q7G(a:a0V):Int:=Q57 (List.drop (1:Nat) a.1.1)
def Q7F(a:eL)(b:ck)(c:a0V):Prop:=Q1 (Vl ((0:Int)=(2:Int)) (4:Int)) a b ((Qm,Qm,LP)=fK a c)
theorem OJ:aB Tryz.prog 224 OK:=by
 refine aD (cx Mx [] wU mH) Tryz.func224 (by kernel_rfl) (by kernel_rfl) rfl rfl rfl fun (x:(Unit)) h (y:((List UInt8×Unit)×(Int×Unit)×Unit)) k hp=>⟨bK,400,af (q:=Q0 (y.1.1==([]:List UInt8)) (Q1 (Vl ((0:Int)=(2:Int)) (3:Int)) x h ((Qm,Qm,LP)=fK x y)) (Qz ((0:Int)≤(0:Int)) ((0:Int)<Q4x y.1.1) (Q3 (decide ((63:Int)<(Q57 y.1.1))) (Q7F x h y)) (Q4 (decide ((63:Int)<(Q57 y.1.1))) (lN ((0:Int)≤(1:Int)) ((1:Int)≤Q4x y.1.1) (eJ () (y9 (List.drop (1:Nat) y.1.1))) (Q4 (decide ((Q7G y)<(1:Int))) (QT (Q4P y.2.1.1) (mL y.2 (Q7G y)) (Q7F x h y) (Qz ((0:Int)≤(0:Int)) ((0:Int)<Q4x y.1.1) (Qi (Q7G y)) (Q1 (gk Q7H) x h (((Q57 y.1.1,()),(Q7G y,()),LP)=fK x y))))) (Q3 (decide ((Q7G y)<(1:Int))) (Q7F x h y)))))) (by kernel_rfl) ?_⟩
 delta Q7 Q6 oO lG Qn Q3 Qk Q4 Q5 Q0 mB Qi Q1 Q57 Q4x LP Qz gk mL QT Q7H Qm y9 Q4P Vl lN Q7G Q7F;obtain ⟨⟨⟩⟩:=x;obtain ⟨⟨⟩⟩:=h;obtain ⟨⟨s,⟨⟩⟩,⟨(k0:Int),⟨⟩⟩,⟨⟩⟩:=y;obtain ⟨⟨⟨⟩,⟨⟩⟩,⟨⟨⟩,⟨⟩⟩,⟨⟩⟩:=k
 try dsimp only [fK]
 obtain ⟨h2,hl,e0,e1,e2,e3⟩:=(show 2≤List.length s∧List.length s≤1000∧cG s 0=0∧1≤cG s 1∧cG s 1≤k0∧k0≤64 from hp);have ed:cG (List.drop 1 s) 0=cG s 1:=by unfold cG;simp [List.getD_eq_getElem?_getD]
 have hd:eJ () ((List.drop 1 s,()),()):=⟨by show 0<(List.drop 1 s).length;rw [List.length_drop];omega,by show cG (List.drop 1 s) 0<128;omega⟩
 have hres:(((0:Int),()),(cG s 1,()),((),()),((),()),())=fK () ((s,()),(k0,()),()):=by show _=((cG s 0,()),(cG s 1,()),((),()),((),()),());rw [e0]
 have hne:s≠ []:=fun e=>by rw [e] at h2;exact absurd h2 (by decide)
 simp only [cl];simp only [ed,e0]
 (repeat' (first|exact hd|exact hres|exact absurd ‹s= []› hne|(refine And.intro ?_ ?_)|intro _))
 all_goals first|(exfalso;omega)|omega|trivial|rfl|(simp only [aL,aT,aU];omega)|exact hd|exact hres|exact absurd ‹s= []› hne
noncomputable def eE:=wU.rd 224 OJ
def jO(x:(jK×Unit))(y:((Int×Unit)×Unit)):Prop:=x.1.2.1=false∧0≤y.1.1∧y.1.1≤List.length x.1.1
def dO(x:(jK×Unit))(y:((Int×Unit)×Unit))(x':(jK×Unit))(z:((List UInt8×Unit)×Unit)):Prop:=x'.1.2.1=false∧x'.1.1=List.drop y.1.1.toNat x.1.1∧z.1.1=List.take y.1.1.toNat x.1.1
noncomputable def a4h:MC:=qC [true,false] [JW] [(false,[.int .i64])] [(false,[.str])] jO dO
def Q7J(a:Prop):Prop:=Q10 True a
def Q7I(a:Int)(b:ky):Bool:=decide (a<b.1.1)
theorem a3W:ab Tryz.prog 222 a4h:=by
 refine ah (cx Mx [] eE mH) Tryz.func222 (by kernel_rfl) (by kernel_rfl) fun (x:(jK×Unit)) h (y:((Int×Unit)×Unit)) k hf hg hp=>⟨bK,400,af (q:=Ql x.1.2.1 (QK (Q7I (Q4x x.1.1) y) True True (dO x y ((x.1.1,Qq),()) (y9 ([]:List UInt8))) (QC (D8 y.1.1 (Q4x x.1.1)) (D8 y.1.1 (Q4x x.1.1)) True (dO x y ((List.drop (QW y) x.1.1,x.1.2.1,()),()) (y9 (List.take (QW y) x.1.1))))) (Q7J (dO x y ((x.1.1,Qq),()) (y9 ([]:List UInt8))))) (by kernel_rfl) ?_⟩
 delta Q7 Q6 QC Q3 Q4 Q0 QK Qt Q10 Ql Q4x Q7J D8 QW y9 Qq Q7I;obtain ⟨⟨l0,k0,⟨⟩⟩,⟨⟩⟩:=x;obtain ⟨⟨⟨⟩,⟨⟩,⟨⟩⟩,⟨⟩⟩:=h;obtain ⟨⟨(n:Int),⟨⟩⟩,⟨⟩⟩:=y;obtain ⟨⟨⟨⟩,⟨⟩⟩,⟨⟩⟩:=k
 try dsimp only
 obtain ⟨hb,h0,h1⟩:=(show k0=false∧0≤n∧n≤List.length l0 from hp);subst hb;simp only [cl]
 (repeat' (first|exact ⟨rfl,rfl,rfl⟩|(refine And.intro ?_ ?_)|intro _))
 all_goals first|(exfalso;omega)|omega|trivial|rfl|(simp only [aL,aT,aU];omega)|exact ⟨rfl,rfl,rfl⟩
noncomputable def NF:=mH.add 222 a3W
def jC(x:(jK×Unit))(y:((Int×Unit)×Unit)):Prop:=x.1.2.1=false∧1≤y.1.1∧y.1.1≤2∧y.1.1≤List.length x.1.1∧List.length x.1.1≤1000
def fE(x:(jK×Unit))(y:((Int×Unit)×Unit))(x':(jK×Unit))(z:((Int×Unit)×Unit)):Prop:=x'.1.2.1=false∧x'.1.1=List.drop y.1.1.toNat x.1.1∧z.1.1=(iP x.1.1 y.1.1.toNat:Int)
noncomputable def Xh:MC:=qC [true,false] [JW] [(false,[.int .i64])] [(false,[.int .u16])] jC fE
abbrev rN:Type:=Nat×Nat×List UInt8×Bool×List UInt8
abbrev zR:Type:=eZ [(false,[Sp.str])]
abbrev Ie:Type:=aZ [(false,[Sp.str])]
abbrev oP:Type:=Sp.Hs [JW]
abbrev iw:Type:=Sp.Ts [JW]
abbrev MP:Type:=jK×Unit
def Q7L(a:rN):kG:=jP a.2.2.1
def Q7K(a:Nat)(b:Ie)(c:rN)(d:Nat)(e f g:Prop)(i:ky)(j l:Prop):Prop:=Q6 (Q5d (Q2m (RU a) (sX (Q7j b.1) c.2.2.1.length d c.2.1) (↑(Q7j b.1):Int) (Q4x c.2.2.1) (RU c.1)) e f g True) (c.1≤QW i) j (Q18 c.2.2.2.1) l
def Q7P(a:Prop)(b c:rN)(d e f g:Prop)(i:ky)(j l:Prop):Prop:=Q6 (Q5d (Q2m a (sX b.2.2.1.length c.2.2.1.length b.2.1 c.2.1) (Q4x b.2.2.1) (Q4x c.2.2.1) d) e f g True) (c.1≤QW i) j (Q18 c.2.2.2.1) l
def Q7Q(a:Int):Int:=IntKind.u16.wrap a
def Q7N(a:rN)(b:ky)(c:MP):Prop:=a.2.2.2.2=List.drop (QW b) c.1.1
def Q7M(a:rN)(b:ky)(c:MP):Prop:=a.2.2.1=List.take (QW b) c.1.1
def Wi(a b:rN):Prop:=WD a.2.2.1.length b.2.2.1.length (List.take (Q7L b).length (Q7L a)=Q7L b)
def Q7R(a:MP)(b:rN):Int:=(↑(iP a.1.1 b.1):Int)
def Q7O(a:rN)(b:ky)(c d e f:Prop):Prop:=Qn (a.1≤QW b) c (Q18 a.2.2.2.1) d→QK (MT a.1 (Q4x a.2.2.1)) (Q4C a.1 (Q4x a.2.2.1)) (jh∧sY a.1<(Q7L a).length) e (Q7J f)
theorem Xs:ab Tryz.prog 158 Xh:=by
 refine ah (cx Mw [] eE NF) Tryz.func158 (by kernel_rfl) (by kernel_rfl) fun (x:(jK×Unit)) h (y:((Int×Unit)×Unit)) k hf hg hp=>⟨(fun bk=>match bk with|0=>some {S:=Nat×Nat×List UInt8×Bool×List UInt8,st:=fun s=>⟨jk [(5,.v (.one (.int .u16 false ((iP x.1.1 s.1:Int))))),(5,.v (.one (.rs false 0 1 0 1 0 (List.length s.2.2.1) s.2.1))),(0,.v (.one (.int .i64 false ((List.length s.2.2.1:Int))))),(0,.v (.one (.int .i64 false ((s.1:Int)))))] 24,[some (.cells [.op (dc s.2.2.2.2),.bool false s.2.2.2.1] 289),some (.rows true false [.int .u8] (jP s.2.2.1) 0 (List.length s.2.2.1) 5)]⟩,ok:=fun s=>s.1≤y.1.1.toNat∧s.2.2.1=List.take y.1.1.toNat x.1.1∧s.2.2.2.1=false∧s.2.2.2.2=List.drop y.1.1.toNat x.1.1,mu:=fun s=>y.1.1.toNat-s.1,init:=(0,0,[],false,[]),ex:=true}|_=>none),400,af (q:=Qr (jO (x.1,()) (Qg y.1.1)) (∀ (va:iw) (vb:oP) (vc:Ie) (vd:zR),Q2Z (dO (x.1,()) (Qg y.1.1) va vc) (∀ (ve:Nat),Q3G (Q7j vc.1≤ve) (∃ (vf:rN),Q7K (iP x.1.1 vf.1) vc vf ve (Q4I ({toList:=va.1.1})=Lh vf.2.2.2.2) (va.1.2.1=vf.2.2.2.1) (Q7 QJ jh (ta (Q7j vc.1) vf.2.2.1.length (List.take (Q7L vf).length (List.map (fun (vg:gW)=>Q7l vg) vc.1.1)=Q7L vf))) y (Q7M vf y x) (Q7N vf y x)) (∀ (vf:rN),Q7O vf y (Q7M vf y x) (Q7N vf y x) (∃ (vg:rN),Q2D (Q7P (yG (Q7Q (↑((BitVec.ofInt (16:Nat) (Q7Q (Q7R x vf*(256:Int)))) ||| (BitVec.ofInt (16:Nat) (IntKind.u16.wrap (Q5l (Q7L vf) vf.1)))).toNat:Int)) (iP x.1.1 vg.1)) vf vg (yG (ZE (Q2C vf.1)) vg.1) (I4 vf.2.2.2.2 vg.2.2.2.2) (vf.2.2.2.1=vg.2.2.2.1) (Wi vf vg) y (Q7M vg y x) (Q7N vg y x)) (QW y) vg.1 (QW y) vf.1) (fE x y ((vf.2.2.2.2,vf.2.2.2.1,()),()) (Qg (Q7R x vf))))))) (by kernel_rfl) ?_⟩
 delta Q7 Q6 Qn kA cR Qs Q3 ya Qr jh mJ Q4 QJ cu JY Q0 Q23 uI Q2B QH QK Qg sY yG Qt Q10 dD Q3j WD Q4x Q4I Lh Q5d ZE Qo Q2m Q2Z Q2C MT sX Q7J QW Q18 RU Q2D Q7l Q3G ta Q4C I4 Q7j Q5l Q7L Q7K Q7P Q7Q Q7N Q7M Wi Q7R Q7O;obtain ⟨⟨k0,m0,⟨⟩⟩,⟨⟩⟩:=x;obtain ⟨⟨⟨⟩,⟨⟩,⟨⟩⟩,⟨⟩⟩:=h;obtain ⟨⟨(l0:Int),⟨⟩⟩,⟨⟩⟩:=y;obtain ⟨⟨⟨⟩,⟨⟩⟩,⟨⟩⟩:=k
 try dsimp only
 obtain ⟨hb,h1,h2,h3,h4⟩:=(show m0=false∧1≤l0∧l0≤2∧l0≤List.length k0∧List.length k0≤1000 from hp);subst hb;simp only [cl];refine ⟨⟨rfl,by show (0:Int)≤l0;omega,h3⟩,fun x' z hz c' hc=>?_⟩
 obtain ⟨x1,x2,x3⟩:=(show x'.1.2.1=false∧x'.1.1=List.drop l0.toNat k0∧z.1.1=List.take l0.toNat k0 from hz);have hlen:(List.take l0.toNat k0).length=l0.toNat:=by rw [List.length_take];omega
 have hR:(jP (List.take l0.toNat k0)).length=l0.toNat:=by rw [tq,hlen]
 have hT:List.take l0.toNat (jP (List.take l0.toNat k0))=jP (List.take l0.toNat k0):=List.take_of_length_le (Nat.le_of_eq hR);simp only [x1,x2,x3,hlen];refine ⟨⟨(0,c',List.take l0.toNat k0,false,List.drop l0.toNat k0),?_⟩,?_⟩
 ·dsimp only;simp only [hlen,hR];refine ⟨⟨⟨rfl,⟨trivial,trivial⟩,trivial,rfl⟩,⟨trivial,trivial⟩,trivial,hT⟩,?_⟩;exact ⟨Nat.zero_le _,trivial,trivial,trivial⟩
 ·rintro ⟨i,c,t,b,d⟩ hi ht hb hd;dsimp only at hi ht hb hd ⊢;subst ht hb hd;simp only [hlen,hR];refine ⟨fun hlt=>?_,fun hge=>?_⟩
  ·have hg:(al (jP (List.take l0.toNat k0)) i).1=((k0.getD i 0).toNat:Int):=by
    rw [DA (by omega),List.getD_eq_getElem?_getD,List.getElem?_take_of_lt (by omega),←List.getD_eq_getElem?_getD]
   have hb:=Lt k0 i;have hc:=(k0.getD i 0).toNat_lt;have hw:IntKind.u16.wrap ((BitVec.ofInt 16 (IntKind.u16.wrap ((iP k0 i:Int)*256)) ||| BitVec.ofInt 16 (IntKind.u16.wrap ((k0.getD i 0).toNat:Int))).toNat:Int)=(iP k0 (i+1):Int):=by
    rw [a3q (by omega) (by have h8:256^i≤256^1:=Nat.pow_le_pow_right (by decide) (by omega);simp only [Nat.reducePow] at h8;omega) (by omega) (by omega)]
    show (iP k0 i:Int)*256+_=((iP k0 i*256+(k0.getD i 0).toNat:Nat):Int);omega
   refine ⟨⟨by omega,by omega⟩,by omega,(i+1,c,List.take l0.toNat k0,false,List.drop l0.toNat k0),?_⟩
   dsimp only;simp only [hlen,hR,hg];refine ⟨⟨⟨⟨hw,⟨trivial,trivial⟩,trivial,?_⟩,⟨trivial,trivial⟩,trivial,hT⟩,?_⟩,?_⟩
   ·rw [dn (by simp only [aL,aT,aU];omega)];omega
   ·exact ⟨by omega,trivial,trivial,trivial⟩
   ·omega
  ·obtain rfl:i=l0.toNat:=by omega
   exact ⟨rfl,rfl,rfl⟩
noncomputable def J4:=NF.add 158 Xs
def E2(x:(jK×Unit))(y:((Int×Unit)×Unit)):Prop:=x.1.2.1=false∧1≤y.1.1∧y.1.1≤4∧y.1.1≤List.length x.1.1∧List.length x.1.1≤1000
def nN(x:(jK×Unit))(y:((Int×Unit)×Unit))(x':(jK×Unit))(z:((Int×Unit)×Unit)):Prop:=x'.1.2.1=false∧x'.1.1=List.drop y.1.1.toNat x.1.1∧z.1.1=(iP x.1.1 y.1.1.toNat:Int)
noncomputable def YM:MC:=qC [true,false] [JW] [(false,[.int .i64])] [(false,[.int .u32])] E2 nN
theorem Yl:ab Tryz.prog 159 YM:=by
 refine ah (cx Mw [] eE J4) Tryz.func159 (by kernel_rfl) (by kernel_rfl) fun (x:(jK×Unit)) h (y:((Int×Unit)×Unit)) k hf hg hp=>⟨(fun bk=>match bk with|0=>some {S:=Nat×Nat×List UInt8×Bool×List UInt8,st:=fun s=>⟨jk [(5,.v (.one (.int .u32 false ((iP x.1.1 s.1:Int))))),(5,.v (.one (.rs false 0 1 0 1 0 (List.length s.2.2.1) s.2.1))),(0,.v (.one (.int .i64 false ((List.length s.2.2.1:Int))))),(0,.v (.one (.int .i64 false ((s.1:Int)))))] 24,[some (.cells [.op (dc s.2.2.2.2),.bool false s.2.2.2.1] 289),some (.rows true false [.int .u8] (jP s.2.2.1) 0 (List.length s.2.2.1) 5)]⟩,ok:=fun s=>s.1≤y.1.1.toNat∧s.2.2.1=List.take y.1.1.toNat x.1.1∧s.2.2.2.1=false∧s.2.2.2.2=List.drop y.1.1.toNat x.1.1,mu:=fun s=>y.1.1.toNat-s.1,init:=(0,0,[],false,[]),ex:=true}|_=>none),400,af (q:=Qr (jO (x.1,()) (Qg y.1.1)) (∀ (va:iw) (vb:oP) (vc:Ie) (vd:zR),Q2Z (dO (x.1,()) (Qg y.1.1) va vc) (∀ (ve:Nat),Q3G (Q7j vc.1≤ve) (∃ (vf:rN),Q7K (iP x.1.1 vf.1) vc vf ve (Q4I ({toList:=va.1.1})=Lh vf.2.2.2.2) (va.1.2.1=vf.2.2.2.1) (WD (Q7j vc.1) vf.2.2.1.length (List.take (Q7L vf).length (List.map (fun (vg:gW)=>Q7l vg) vc.1.1)=Q7L vf)) y (Q7M vf y x) (Q7N vf y x)) (∀ (vf:rN),Q7O vf y (Q7M vf y x) (Q7N vf y x) (∃ (vg:rN),Q2D (Q7P (yG (Q4H (IntKind.u32.wrap (Q7R x vf*(256:Int))) (IntKind.u32.wrap (Q5l (Q7L vf) vf.1))) (iP x.1.1 vg.1)) vf vg (yG (ZE (Q2C vf.1)) vg.1) (I4 vf.2.2.2.2 vg.2.2.2.2) (vf.2.2.2.1=vg.2.2.2.1) (Wi vf vg) y (Q7M vg y x) (Q7N vg y x)) (QW y) vg.1 (QW y) vf.1) (nN x y ((vf.2.2.2.2,vf.2.2.2.1,()),()) (Qg (Q7R x vf))))))) (by kernel_rfl) ?_⟩
 delta Q7 Q6 Qn kA cR Qs Q3 ya Qr jh mJ Q4 QJ cu JY Q0 Q23 uI Q2B QH QK Qg sY yG Qt Q10 dD Q3j WD Q4x Q4I Lh Q5d ZE Qo Q2m Q2Z Q2C MT sX Q7J QW Q18 RU Q2D Q7l Q3G Q4C I4 Q7j Q5l Q7L Q7K Q7P Q7N Q7M Wi Q7R Q7O Q4H;obtain ⟨⟨k0,m0,⟨⟩⟩,⟨⟩⟩:=x;obtain ⟨⟨⟨⟩,⟨⟩,⟨⟩⟩,⟨⟩⟩:=h;obtain ⟨⟨(l0:Int),⟨⟩⟩,⟨⟩⟩:=y;obtain ⟨⟨⟨⟩,⟨⟩⟩,⟨⟩⟩:=k
 try dsimp only
 obtain ⟨hb,h1,h2,h3,h4⟩:=(show m0=false∧1≤l0∧l0≤4∧l0≤List.length k0∧List.length k0≤1000 from hp);subst hb;simp only [cl];refine ⟨⟨rfl,by show (0:Int)≤l0;omega,h3⟩,fun x' z hz c' hc=>?_⟩
 obtain ⟨x1,x2,x3⟩:=(show x'.1.2.1=false∧x'.1.1=List.drop l0.toNat k0∧z.1.1=List.take l0.toNat k0 from hz);have hlen:(List.take l0.toNat k0).length=l0.toNat:=by rw [List.length_take];omega
 have hR:(jP (List.take l0.toNat k0)).length=l0.toNat:=by rw [tq,hlen]
 have hT:List.take l0.toNat (jP (List.take l0.toNat k0))=jP (List.take l0.toNat k0):=List.take_of_length_le (Nat.le_of_eq hR);simp only [x1,x2,x3,hlen];refine ⟨⟨(0,c',List.take l0.toNat k0,false,List.drop l0.toNat k0),?_⟩,?_⟩
 ·dsimp only;simp only [hlen,hR];refine ⟨⟨⟨rfl,⟨trivial,trivial⟩,trivial,rfl⟩,⟨trivial,trivial⟩,trivial,hT⟩,?_⟩;exact ⟨Nat.zero_le _,trivial,trivial,trivial⟩
 ·rintro ⟨i,c,t,b,d⟩ hi ht hb hd;dsimp only at hi ht hb hd ⊢;subst ht hb hd;simp only [hlen,hR];refine ⟨fun hlt=>?_,fun hge=>?_⟩
  ·have hg:(al (jP (List.take l0.toNat k0)) i).1=((k0.getD i 0).toNat:Int):=by
    rw [DA (by omega),List.getD_eq_getElem?_getD,List.getElem?_take_of_lt (by omega),←List.getD_eq_getElem?_getD]
   have hb:=Lt k0 i;have hc:=(k0.getD i 0).toNat_lt;have hw:IntKind.u32.wrap ((BitVec.ofInt 32 (IntKind.u32.wrap ((iP k0 i:Int)*256)) ||| BitVec.ofInt 32 (IntKind.u32.wrap ((k0.getD i 0).toNat:Int))).toNat:Int)=(iP k0 (i+1):Int):=by
    rw [a3F (by omega) (by have h8:256^i≤256^3:=Nat.pow_le_pow_right (by decide) (by omega);simp only [Nat.reducePow] at h8;omega) (by omega) (by omega)]
    show (iP k0 i:Int)*256+_=((iP k0 i*256+(k0.getD i 0).toNat:Nat):Int);omega
   refine ⟨⟨by omega,by omega⟩,by omega,(i+1,c,List.take l0.toNat k0,false,List.drop l0.toNat k0),?_⟩
   dsimp only;simp only [hlen,hR,hg];refine ⟨⟨⟨⟨hw,⟨trivial,trivial⟩,trivial,?_⟩,⟨trivial,trivial⟩,trivial,hT⟩,?_⟩,?_⟩
   ·rw [dn (by simp only [aL,aT,aU];omega)];omega
   ·exact ⟨by omega,trivial,trivial,trivial⟩
   ·omega
  ·obtain rfl:i=l0.toNat:=by omega
   exact ⟨rfl,rfl,rfl⟩
noncomputable def Jf:=J4.add 159 Yl
def xS(x:(Unit))(y:((List UInt8×Unit)×Unit)):Prop:=3≤List.length y.1.1∧List.length y.1.1≤900∧1≤cG y.1.1 0∧cG y.1.1 0≤64∧cG y.1.1 1=0∧cG y.1.1 2=cG y.1.1 0
def ju(x:(Unit))(y:((List UInt8×Unit)×Unit))(x':(Unit))(z:((List (Row [.int .u8])×Unit)×(Unit×Unit)×(Unit×Unit)×Unit)):Prop:=z.1.1=fV (cG y.1.1 0).toNat
noncomputable def Rk:MC:=frz<|qC [false] [] [(false,[.str])] [(false,[.sl [.int .u8] 5]),(false,[.cl (.int .i64 (3))]),(false,[.cl (.int .i64 (0))])] xS ju
def Q81(a:eV):Bool:=decide (a.1=(0:Nat))
def Q7X(a:eV):Int:=if a.1=(0:Nat) then (1:Int) else (3:Int)
def PR(a:kJ)(b c:eV)(d:Nat):Prop:=Q2B (yq a) (Rr a=Rr a) (1:Int) (1:Int) (iZ (Nc (Q81 b)) (Q81 c) (rB b.1) c.1 d c.2) (Q2m lG Q7H (Rr a) (Rr a) (QH (Oy b)=Oy c))
def Q88(a:kJ)(b:eV)(c:Prop)(d:eV):Prop:=cR (Q2m (yq a) (Rr a=Rr a) (3:Int) (Q7X b) c) (yI (Q81 d) (Q81 b) d.2 b.2 (fV b.1).length (fV d.1) (fV b.1))
def Q85(a:Prop)(b c:eV)(d:Nat):Prop:=cR a (yI (Nc (Q81 b)) (Q81 c) d c.2 (fV c.1).length (TW (fV b.1) (0:Int)) (fV c.1))
def Q82(a:Prop)(b:eV)(c:kJ)(d e:Prop):Prop:=a→Q0 (iq b (Rr c)) (Q7A b.1 (fV b.1).length b.2 (Q81 b=Q81 b) (Q81 b) (WV b.1 (1:Nat)) d) e
def NV(a:Prop)(b:eV)(c:kJ)(d:eV):Prop:=E4 a (Oy b≤Rr c) (b.1≤b.2) (Ha b.1 b.2) (Rr c).toNat b.1 (Rr c).toNat d.1
def Q7U(a:kG):Prop:=a=([]:List (Row [Kd.int IntKind.u8]))
def Q7W(a:eV)(b:kJ):Bool:=decide ((Q7X a)<(Q4B b))
def Q83(a:eV)(b:kJ):Prop:=Q7 (Oy a≤Rr b) (a.1≤a.2) (Ha a.1 a.2)
def Q7V(a:eV):Bool:=decide ((0:Int)<(Oy a))
def Q89(a:eV):Nat:=if a.1=(0:Nat) then (1:Nat) else (0:Nat)
def Q87(a:Prop)(b:eV)(c:kJ)(d:eV):Prop:=Q2d a (kA b.1∨Oy b=Rr c) (b.1≤b.2) (Ha b.1 b.2) (Q89 b<Q89 d)
def Wn(a:kJ)(b:eV)(c:Prop):Prop:=Qn (cR (Q2B (yq a) (Rr a=Rr a) (Q7X b) (1:Int) (ya c) (Q2m (oO (Q57 (List.drop (Q7X b).toNat a.1.1))) Q7H (cG (List.drop (Q7X b).toNat a.1.1) (1:Nat)) (Rr a) ((0:Int)=(↑(0:Nat):Int)))) (Qn (Q81 b=(decide ((0:Nat)=(0:Nat)))) jh (kA b.2) (List.take (0:Nat) (fV b.1)=(fV (0:Nat))))) ((↑(0:Nat):Int)≤Rr a) ((0:Nat)≤(0:Nat)) Wl
def Q7Y(a:eV)(b:kJ):Prop:=kP () ((List.drop (Q7X a).toNat b.1.1,()),Qg (Rr b-Oy a))
def Q80(a:Bool)(b:eV)(c:Nat):Prop:=Q6 (a=(decide ((0:Nat)=(0:Nat)))) jh jh (kA b.1) (kA c)
def Q7T(a:Int)(b:eL)(c:kJ):Prop:=Q10 (Vl (fi (3:Int)) a) (ju b c () ((([]:List (Row [Kd.int IntKind.u8])),()),LP))
theorem Ri:ab Tryz.prog 161 Rk:=by
 refine DD ?_;refine ah (cx Mx [] eE Jf) Tryz.func161 (by kernel_rfl) (by kernel_rfl) fun (x:(Unit)) h (y:((List UInt8×Unit)×Unit)) k hf hg hp=>⟨(fun bk=>match bk with|1=>some {S:=Nat×Nat,st:=fun s=>⟨jk [(0,.v (.one (.op (dc y.1.1)))),(4,.v (.one (.int .u64 false (cG y.1.1 0)))),(0,.v (.one (.int .i64 false ((if s.1=0 then 1 else 3))))),(1,.v (.one (.rs (decide (s.1=0)) 0 0 0 1 0 s.1 s.2)))] 82,[some (.rows false (decide (s.1=0)) [.int .u8] (fV s.1) 0 s.2 5)]⟩,ok:=fun s=>(s.1=0∨(s.1:Int)=cG y.1.1 0)∧s.1≤s.2∧(s.1=0→s.2=0),mu:=fun s=>(if s.1=0 then 1 else 0),init:=(0,0)}|3=>some {S:=Nat×Nat,st:=fun s=>⟨jk [(0,.v (.one (.op (dc y.1.1)))),(4,.v (.one (.int .u64 false (cG y.1.1 0)))),(0,.v (.one (.int .i64 true 1))),(1,.v (.one (.rs (decide (s.1=0)) 0 0 0 1 0 s.1 s.2))),(0,.v (.one (.int .u8 true 0))),(1,.v (.one (.int .i64 true 2))),(57,.v (.one (.int .i64 false (cG y.1.1 0)))),(0,.v (.one (.int .i64 false ((s.1:Int)))))] 82,[some (.rows false (decide (s.1=0)) [.int .u8] (fV s.1) 0 s.2 5)]⟩,ok:=fun s=>(s.1:Int)≤cG y.1.1 0∧s.1≤s.2∧(s.1=0→s.2=0),mu:=fun s=>((cG y.1.1 0).toNat-s.1),init:=(0,0)}|_=>none),400,af (q:=QT (eJ () (y9 y.1.1)) (decide ((64:Int)<(Rr y))) (Q7T (5:Int) x y) (GY (cR (Qn (yq y) (Rr y=Rr y) ((1:Int)=(if (0:Nat)=(0:Nat) then (1:Int) else (3:Int))) (ya Q1r)) (Rt∧Q7U (fV (0:Nat)))) (jh∨(↑(0:Nat):Int)=Rr y) (∀ (va:eV),Q7 (kA va.1∨Oy va=Rr y) (va.1≤va.2) (Ha va.1 va.2)→QT (Qi (Rr y)) (iq va (Rr y)) (Q0 (Q7V va) (K7 (Q7W va y) (kS (Q7V va)) (kS (Q7W va y)) (Qo (Q7X va) (Q4B y)) (Q1a (QO (Oy va)) (Qo (QQ (Oy va)) (Oy va)) ((QQ (Oy va)).toNat<(fV va.1).length) (cG y.1.1 (Q7X va).toNat==(al (fV va.1) (QQ (Oy va)).toNat).1) (Q7T (4:Int) x y) (D8 (Q7X va) (Q4B y)∧Q6 (Qi (Rr y)) (QS (Rr y) (Oy va)) (Q7Y va y) (Wn y va (Q80 (Q81 va) va va.2)) (∀ (vb:eV),Q82 (Q83 vb y) vb y (∀ (vc:Nat),x9 vb.1 vc vb.2 (D4 vb (∃ (vd:eV),NV (Q85 (PR y vb vd vc) vb vd vc) vd y vb))) (∃ (vc:eV),Q87 (Q88 y vc (iZ (Q81 vb) (Q81 vc) vb.1 vc.1 vb.2 vc.2) vb) vc y va)))) (Qn (kS (Q7V va)) (Q18 (Q7W va y)) (D8 (Q7X va) (Q4B y)) (Q6 (Qi (Rr y)) (QS (Rr y) (Oy va)) (Q7Y va y) (Wn y va (Q80 (Q81 va) va va.2)) (∀ (vb:eV),Q82 (Q83 vb y) vb y (∀ (vc:Nat),x9 vb.1 vc vb.2 (D4 vb (∃ (vd:eV),NV (Q85 (PR y vb vd vc) vb vd vc) vd y vb))) (∃ (vc:eV),Q87 (Q88 y vc (iZ (Q81 vb) (Q81 vc) vb.1 vc.1 vb.2 vc.2) vb) vc y va))))) (Q3p (Q18 (Q7V va)) (D8 (Q7X va) (Q4B y)) (Qi (Rr y)) (QS (Rr y) (Oy va)) (Q7Y va y) (Wn y va (Q80 (Q81 va) va va.2)) (∀ (vb:eV),Q82 (Q83 vb y) vb y (∀ (vc:Nat),x9 vb.1 vc vb.2 (D4 vb (∃ (vd:eV),NV (Q85 (PR y vb vd vc) vb vd vc) vd y vb))) (∃ (vc:eV),Q87 (Q88 y vc (iZ (Q81 vb) (Q81 vc) vb.1 vc.1 vb.2 vc.2) vb) vc y va)))) (Q10 (Ye (kF va.1 (fV va.1).length (Q81 va) (Q81 va) va.2 va.2) (Q7X va=(3:Int))) (ju x y () ((fV va.1,()),LP)))))) (by kernel_rfl) ?_⟩
 delta Q7 Q6 oO lG Qn kA cR Q3 ya jh Qk Q4 cu Q0 Q23 gC mB iZ Q2B Oy QH kF Qi Qg oE Ye Qt Q10 Q57 Rr QE K7 Q4x LP Q4I Lh Qo Q2d Q4B Q2m rB Ha Q81 Q7A RH Q2a E4 kS Q7X Q1a Q3p Nc QS x9 D8 yq GW WV D4 Q18 yI QT Q7H Q4V y9 QQ Rt Vl iq Q1r TW PR fi Wl Q88 QO Q85 Q89 Q82 NV Q7U Q7W Q83 Q7V Q87 GY Wn Q7Y Q80 Q7T;obtain ⟨⟨⟩⟩:=x;obtain ⟨⟨⟩⟩:=h;obtain ⟨⟨t,⟨⟩⟩,⟨⟩⟩:=y;obtain ⟨⟨⟨⟩,⟨⟩⟩,⟨⟩⟩:=k
 try dsimp only
 obtain ⟨h3,h9,n1,n64,b1,b2⟩:=(show 3≤List.length t∧List.length t≤900∧1≤cG t 0∧cG t 0≤64∧cG t 1=0∧cG t 2=cG t 0 from hp);have hrn:eJ () ((t,()),()):=⟨by show 0<t.length;omega,by show cG t 0<128;omega⟩
 have d0:cG (List.drop 1 t) 0=0:=by rw [←b1];unfold cG;simp [List.getD_eq_getElem?_getD]
 have d1:cG (List.drop 1 t) 1=cG t 0:=by rw [←b2];unfold cG;simp [List.getD_eq_getElem?_getD]
 have hst:kP () ((List.drop 1 t,()),(cG t 0- ↑(0:Nat),()),()):=⟨by show 2≤(List.drop 1 t).length;rw [List.length_drop];omega,by show (List.drop 1 t).length≤1000;rw [List.length_drop];omega,d0,by show 1≤cG (List.drop 1 t) 1;omega,by show cG (List.drop 1 t) 1≤cG t 0-((0:Nat):Int);omega,by show cG t 0-((0:Nat):Int)≤64;omega⟩
 have z0:fV 0= []:=rfl;have zl: ∀n,(fV n).length=n:=fun n=>List.length_replicate;have zs: ∀n,(fV n).append [(0,())]=fV (n+1):=fun n=>(List.replicate_succ' (n:=n) (a:=((0:Int),()))).symm;have zt: ∀n,List.take n (fV n)=fV n:=fun n=>List.take_of_length_le (Nat.le_of_eq (zl n));simp only [cl];refine ⟨hrn,fun h=>absurd h (by omega),fun _=>⟨by simp [z0],fun s hs1 hs2 hs3=>⟨by simp only [aL,aT,aU];omega,fun hlt=>?_,fun hge=>?_⟩⟩⟩
 ·obtain ⟨s1,s2⟩:=s;dsimp only at hs1 hs2 hs3 hlt ⊢;obtain rfl:s1=0:=by omega
  obtain rfl:s2=0:=hs3 rfl;refine ⟨fun h=>absurd h (by decide),fun _=>?_⟩
  simp only [if_true,show (1:Int).toNat=1 from rfl,d0,d1,zl,zs,zt];refine ⟨by decide,⟨by omega,by omega⟩,by simp only [aL,aT,aU];omega,by simp only [aL,aT,aU];omega,hst,⟨⟨⟨trivial,⟨trivial,trivial,trivial⟩,trivial,trivial,rfl⟩,trivial,trivial,trivial⟩,by omega,Nat.le_refl _⟩,fun s a1 a2 a3=>⟨fun hl=>⟨⟨trivial,a3,by omega⟩,fun c' hc' _=>⟨by simp only [aL,aT,aU];omega,(s.1+1,c'),?_⟩⟩,fun hl=>⟨(s.1,s.2),?_⟩⟩⟩
  ·dsimp only;refine ⟨⟨⟨⟨⟨by simp,rfl,rfl⟩,by omega⟩,by simp,rfl,zt _⟩,by omega,hc',fun h=>by omega⟩,by omega⟩
  ·dsimp only;have e: ¬s.1=0:=by omega
   simp only [e,if_false];exact ⟨⟨⟨⟨trivial,trivial,trivial,trivial⟩,trivial,trivial,zt _⟩,Or.inr (by omega),a2,fun h=>absurd h (by simp)⟩,by decide⟩
 ·have e: ¬s.1=0:=fun e=>hge (by rw [e];omega)
  simp only [e,if_false,zl];have es:s.1=(cG t 0).toNat:=by omega
  rw [es];exact ⟨⟨⟨trivial,fun h=>absurd h (by simp)⟩,trivial⟩,rfl⟩
noncomputable def C2:=Jf.add 161 Ri
end Go.Proofs.YtfdmjoddhjmokaaGreatDoor
namespace Go.Proofs.YtfdmjoddhjmokaaGreatDoor
open Go.RowKit Rex
set_option linter.unusedVariables false
set_option linter.unusedSimpArgs false
set_option maxRecDepth 100000
def wQ(kind nonce serial dI:Int)(n:Nat)(sum lead:Int):Prop:=BX kind nonce serial dI (fV n) sum lead∧(0≤nonce∧nonce≤4294967295)∧(0≤serial∧serial≤65535)∧(0≤dI∧dI≤65535)∧(0≤sum∧sum≤4294967295)
def N4(kind nonce serial dI:Int)(n:Nat)(sum lead:Int):List UInt8:=if kind=1 then 80::1::kI nonce else if kind=2 then 80::2::kI nonce else if kind=3 then 80::3::(fM serial++(fM dI++(bY n++(0::bY n)))) else if kind=4 then 80::4::(fM serial++kI sum) else if kind=5 then 80::5::fM dI else 80::6::(fM serial++bY (zz lead))
theorem pk(kind nonce serial dI:Int)(n:Nat)(sum lead:Int):pkM kind nonce serial dI n sum lead=dL (N4 kind nonce serial dI n sum lead):=by
 unfold pkM N4 G9 v8 zx Ae Fx uU;simp only [apply_ite dL]
theorem Oc {n:Int}(h0:0≤n)(h1:n<128):bY n= [UInt8.ofNat n.toNat]:=nu (by omega) 9
theorem Wh {k:Nat}(h:k<256):(UInt8.ofNat k).toNat=k:=by rw [UInt8.toNat_ofNat'];exact Nat.mod_eq_of_lt h
theorem be4 {n:Int}(h0:0≤n)(h1:n≤4294967295)(l:List UInt8):iP (kI n++l) 4=n.toNat:=by
 show (((0*256+(UInt8.ofNat (n.toNat / 16777216 %256)).toNat)*256+(UInt8.ofNat (n.toNat / 65536 %256)).toNat)*256+(UInt8.ofNat (n.toNat / 256 %256)).toNat)*256+(UInt8.ofNat (n.toNat %256)).toNat=n.toNat;rw [Wh (by omega),Wh (by omega),Wh (by omega),Wh (by omega)]
 omega
theorem Wj {n:Int}(h0:0≤n)(h1:n≤65535)(l:List UInt8):iP (fM n++l) 2=n.toNat:=by
 show (0*256+(UInt8.ofNat (n.toNat / 256 %256)).toNat)*256+(UInt8.ofNat (n.toNat %256)).toNat=n.toNat;rw [Wh (by omega),Wh (by omega)]
 omega
def aG(s:List UInt8):Int×Int×Int×Int×Nat×Int×Int:=
 if cG s 1=1∨cG s 1=2 then (cG s 1,(iP (s.drop 2) 4:Int),0,0,0,0,0) else if cG s 1=3 then (3,0,(iP (s.drop 2) 2:Int),(iP (s.drop 4) 2:Int),(cG s 6).toNat,0,0) else if cG s 1=4 then (4,0,(iP (s.drop 2) 2:Int),0,0,(iP (s.drop 4) 4:Int),0) else if cG s 1=5 then (5,0,0,(iP (s.drop 2) 2:Int),0,0,0) else (6,0,(iP (s.drop 2) 2:Int),0,0,0,uz (cG s 4))
theorem a30 {kind nonce serial dI:Int} {n:Nat} {sum lead:Int}(h:wQ kind nonce serial dI n sum lead)(t:List UInt8):aG (N4 kind nonce serial dI n sum lead++t)=(kind,nonce,serial,dI,n,sum,lead):=by
 obtain ⟨⟨hz,hl,hl0,hl1,hk⟩,⟨n1,n2⟩,⟨s1,s2⟩,⟨a1,a2⟩,⟨u1,u2⟩⟩:=h;have hzl:(fV n).length=n:=List.length_replicate;have hz0:fV n= []→n=0:=fun e=>by rw [←hzl,e];rfl
 rw [hzl] at hl;rcases hk with ⟨rfl|rfl,rfl,rfl,e,rfl,rfl⟩|⟨rfl,rfl,rfl,rfl,hne⟩|⟨rfl,rfl,rfl,e,rfl⟩|⟨rfl,rfl,rfl,e,rfl,rfl⟩|⟨rfl,rfl,rfl,e,rfl⟩
 ·show ((1:Int),(iP (kI nonce++t) 4:Int),(0:Int),(0:Int),(0:Nat),(0:Int),(0:Int))=_;rw [be4 n1 n2,hz0 e,Int.toNat_of_nonneg n1]
 ·show ((2:Int),(iP (kI nonce++t) 4:Int),(0:Int),(0:Int),(0:Nat),(0:Int),(0:Int))=_;rw [be4 n1 n2,hz0 e,Int.toNat_of_nonneg n1]
 ·unfold N4;rw [Oc (n:=(n:Int)) (by omega) (by omega)]
  show ((3:Int),(0:Int),(iP (fM serial++(fM dI++([UInt8.ofNat n]++(0:: [UInt8.ofNat n])++t))) 2:Int),(iP (fM dI++([UInt8.ofNat n]++(0:: [UInt8.ofNat n])++t)) 2:Int),(((UInt8.ofNat n).toNat:Int)).toNat,(0:Int),(0:Int))=_;rw [Wj s1 s2,Wj a1 a2,Int.toNat_of_nonneg s1,Int.toNat_of_nonneg a1,Wh (by omega),Int.toNat_natCast]
 ·show ((4:Int),(0:Int),(iP (fM serial++(kI sum++t)) 2:Int),(0:Int),(0:Nat),(iP (kI sum++t) 4:Int),(0:Int))=_;rw [Wj s1 s2,be4 u1 u2,hz0 e,Int.toNat_of_nonneg s1,Int.toNat_of_nonneg u1]
 ·show ((5:Int),(0:Int),(0:Int),(iP (fM dI++t) 2:Int),(0:Nat),(0:Int),(0:Int))=_;rw [Wj a1 a2,hz0 e,Int.toNat_of_nonneg a1]
 ·unfold N4;obtain ⟨z0,z1⟩:=zH hl0 hl1;rw [Oc (n:=zz lead) (by omega) (by omega)]
  show ((6:Int),(0:Int),(iP (fM serial++([UInt8.ofNat (zz lead).toNat]++t)) 2:Int),(0:Int),(0:Nat),(0:Int),uz ((UInt8.ofNat (zz lead).toNat).toNat:Int))=_;rw [Wj s1 s2,hz0 e,Int.toNat_of_nonneg s1,Wh (by omega),Int.toNat_of_nonneg z0,a0W]
theorem GH {kind nonce serial dI:Int} {n:Nat} {sum lead:Int}(h:wQ kind nonce serial dI n sum lead):aG (pkM kind nonce serial dI n sum lead)=(kind,nonce,serial,dI,n,sum,lead):=by
 rw [pk];exact a30 h _
theorem gL(b:List UInt8):List.take ((dL b).length-4) (dL b)=b:=by
 unfold dL;rw [List.length_append,jv,Nat.add_sub_cancel];exact List.take_left' rfl
theorem gG {b:List UInt8}(h:b.length≤900):wG () ((dL b,()),()):=by
 refine ⟨by show 4≤(dL b).length;unfold dL;rw [List.length_append,jv];omega,by show (dL b).length≤1000;unfold dL;rw [List.length_append,jv];omega,?_⟩
 show tlb (iN (List.take ((dL b).length-4) (dL b)))=List.drop ((dL b).length-4) (dL b);rw [gL,AF (dQ _).1];unfold dL;rw [List.length_append,jv,Nat.add_sub_cancel];exact (List.drop_left' rfl).symm
theorem Xr {kind nonce serial dI:Int} {n:Nat} {sum lead:Int}(h:wQ kind nonce serial dI n sum lead): ∃k8 r,N4 kind nonce serial dI n sum lead=80::k8::r∧(k8.toNat:Int)=kind∧r.length≤30:=by
 obtain ⟨⟨hz,hl,hl0,hl1,hk⟩,-⟩:=h;have:=ee n;have:=ee (zz lead);rcases hk with ⟨rfl|rfl,-⟩|⟨rfl,-⟩|⟨rfl,-⟩|⟨rfl,-⟩|⟨rfl,-⟩
 ·exact ⟨1,_,rfl,rfl,by show 4≤30;decide⟩
 ·exact ⟨2,_,rfl,rfl,by show 4≤30;decide⟩
 ·exact ⟨3,_,rfl,rfl,by simp only [List.length_append,List.length_cons,show ∀n,(fM n).length=2 from fun n=>rfl];omega⟩
 ·exact ⟨4,_,rfl,rfl,by show 6≤30;decide⟩
 ·exact ⟨5,_,rfl,rfl,by show 2≤30;decide⟩
 ·exact ⟨6,_,rfl,rfl,by simp only [List.length_append,List.length_cons,show ∀n,(fM n).length=2 from fun n=>rfl];omega⟩
theorem acz {b:Int}(h0:0≤b)(h1:b<128):IntKind.i64.wrap ((BitVec.ofInt 64 (IntKind.i64.wrap (b / 2)) ^^^ BitVec.ofInt 64 (IntKind.i64.wrap (-IntKind.i64.wrap (IntKind.u64.wrap ((BitVec.ofInt 64 b &&& BitVec.ofInt 64 1).toNat:Int))))).toNat:Int)=uz b:=by
 obtain ⟨k,rfl⟩:=Int.eq_ofNat_of_zero_le h0;exact (by decide: ∀k:Fin 128,IntKind.i64.wrap ((BitVec.ofInt 64 (IntKind.i64.wrap ((k.val:Int)/ 2)) ^^^ BitVec.ofInt 64 (IntKind.i64.wrap (-IntKind.i64.wrap (IntKind.u64.wrap ((BitVec.ofInt 64 (k.val:Int) &&& BitVec.ofInt 64 1).toNat:Int))))).toNat:Int)=uz (k.val:Int)) ⟨k,by omega⟩
def CJ(s:List UInt8):Prop:= ∃kind nonce serial dI n sum lead,wQ kind nonce serial dI n sum lead∧s=pkM kind nonce serial dI n sum lead
def xy(x:(Unit))(y:((List UInt8×Unit)×Unit)):Prop:=CJ y.1.1
def jx(x:(Unit))(y:((List UInt8×Unit)×Unit))(x':(Unit))(z:((Int×Int×Int×Int×List (Row [.int .u8])×Int×Int×Unit)×(Unit×Unit)×Unit)):Prop:=(z.1.1,z.1.2.1,z.1.2.2.1,z.1.2.2.2.1,List.length z.1.2.2.2.2.1,z.1.2.2.2.2.2.1,z.1.2.2.2.2.2.2.1)=aG y.1.1∧z.1.2.2.2.2.1=fV (List.length z.1.2.2.2.2.1)
noncomputable def OY:MC:=qC [false] [] [(false,[.str])] [(true,[.int .i64,.int .u32,.int .u16,.int .u16,.im [.int .u8],.int .u32,.int .i64]),(false,[.cl (.int .i64 (0))])] xy jx
abbrev Sk:Type:=eZ [(false,[Sp.int IntKind.u32])]
abbrev MZ:Type:=aZ [(false,[Sp.int IntKind.u32])]
abbrev B8:Type:=eZ [(false,[Sp.int IntKind.u16])]
abbrev xZ:Type:=aZ [(false,[Sp.int IntKind.u16])]
def GV(a:gz):Prop:=Q10 (oO (4:Int)) (jx () ((a,()),()) () (WA (0:Int),mB))
def lU(a:Sp.bool.T)(b:Sp.str.T)(c:eL)(d:B7)(e:gz):Prop:=(a=false→Ql (!(b==([]:List UInt8))) (Qs (nY c (d,c)) lG (jx c ((e,c),c) c (d,mB))) (GV e))∧(a=true→GV e)
def Q8i(a:Prop)(b:iw)(c:xZ)(d:Io)(e:gz):Prop:=Q2Z a (lU b.1.2.1 b.1.1 () (IntKind.i64.wrap c.1.1,(0:Int),d) e)
def Aw(a:iw):MP:=((a.1.1,a.1.2.1,()),())
def Q8a(a:xZ)(b:Int):Bool:=IntKind.i64.wrap a.1.1==b
def Q8c(a b:iw)(c:MZ)(d:xZ)(e:gz):Prop:=Q2Z (nN (Aw a) (Qg (4:Int)) b c) (lU b.1.2.1 b.1.1 () (IntKind.i64.wrap d.1.1,c.1.1,Q5R) e)
def CA(a b:iw)(c:xZ)(d e:Prop):Prop:=Q2Z (fE (Aw a) (Qg (2:Int)) b c) (Qr d e)
def fY(a:Sp.Ts (false,[Sp.sl [Kd.int IntKind.u8] (5:TypeId)]).snd):Nat:=List.length a.1
def dM(a:iw)(b:Prop):Prop:=Qr (jC (Aw a) (Qg (2:Int))) b
def Q8h(a:iw)(b:Bool)(c:Il)(d:Int)(e:Prop):Prop:=a.1.2.1=b→Qr (jO ((a.1.1,c),()) (Qg d)) e
def Q8m(a:iw):BitVec (64:Nat):=(BitVec.ofInt (64:Nat) (cG a.1.1 (0:Nat))) &&& (BitVec.ofInt (64:Nat) (1:Int))
def Q8j(a:Prop)(b:iw)(c d:xZ)(e:iw)(f:gz):Prop:=Q8i a b c (d.1.1,(0:Int),Q5S (ZE (↑((BitVec.ofInt (64:Nat) (ZE (cG e.1.1 (0:Nat)/ (2:Int)))) ^^^ (BitVec.ofInt (64:Nat) (ZE (-(ZE (F2 (Q8m e))))))).toNat:Int))) f
def Q8b(a:iw):Prop:=E2 (Aw a) (Qg (4:Int))
theorem PI:ab Tryz.prog 90 OY:=by
 refine ah (cx Mw [120,160,162,163] eE C2) Tryz.func90 (by kernel_rfl) (by kernel_rfl) ?_
 rintro ⟨⟨⟩⟩ ⟨⟨⟩⟩ ⟨⟨s,⟨⟩⟩,⟨⟩⟩ ⟨⟨⟨⟩,⟨⟩⟩,⟨⟩⟩ hf hg hp;refine ⟨bK,400,af (q:=K5 (wG () (y9 s)) True (jC ((List.take (s.length-(4:Nat)) s,Q8),()) (Qg (1:Int))) (∀ (va:iw) (vb:oP) (vc:xZ) (vd:B8),Q2Z (fE ((List.take (s.length-(4:Nat)) s,Q8),()) (Qg (1:Int)) va vc) (Qr (jC ((va.1.1,vc.1.1 !=(80:Int),()),()) (Qg (1:Int))) (∀ (ve:iw) (vf:oP) (vg:xZ) (vi:B8),Q2Z (fE ((va.1.1,vc.1.1 !=(80:Int),()),()) (Qg (1:Int)) ve vg) (Q0 (Q8a vg (1:Int)) (Qr (Q8b ve) (∀ (vj:iw) (vl:oP) (vm:MZ) (vn:Sk),Q8c ve vj vm vg s)) (QK (Q8a vg (2:Int)) True True (Q8b ve∧(∀ (vj:iw) (vl:oP) (vm:MZ) (vn:Sk),Q8c ve vj vm vg s)) (Q0 (Q8a vg (3:Int)) (dM ve (∀ (vj:iw) (vl:oP) (vm:xZ) (vn:B8),CA ve vj vm (jC (Aw vj) (Qg (2:Int))) (∀ (vo:iw) (vp:oP) (vq:xZ) (vr:B8),CA vj vo vq (xS () ((vo.1.1,()),())) (∀ (vs:cI) (vt:ck) (vu:aZ [(false,[Sp.sl [Kd.int IntKind.u8] (5:TypeId)]),(false,[Sp.cl (Lc.int IntKind.i64 (3:Int))]),(false,[Sp.cl (Lc.int IntKind.i64 (0:Int))])]) (vw:eZ [(false,[Sp.sl [Kd.int IntKind.u8] (5:TypeId)]),(false,[Sp.cl (Lc.int IntKind.i64 (3:Int))]),(false,[Sp.cl (Lc.int IntKind.i64 (0:Int))])]),uI True (Qn (ya (fY vu.1≤vw.1.1.2∧gC vw.1.1.1 vw.1.1.2)) JY JY True) (ju () ((vo.1.1,()),()) vs vu) (ta (fY vu.1) (fY vu.1) (vw.1.1.1=vw.1.1.1)∧(∀ (vA:Value),Q8h vo false Q8 (3:Int) (∀ (vB:iw) (vC:oP) (vD:Ie) (vv24:zR),Q8i (dO ((vo.1.1,Q8),()) (Qg (3:Int)) vB vD) vB vg (vm.1.1,vq.1.1,vu.1.1,(0:Int),(0:Int),()) s)∧Q8h vo true Qq (3:Int) (∀ (vB:iw) (vC:oP) (vD:Ie) (vv24:zR),Q8i (dO ((vo.1.1,Qq),()) (Qg (3:Int)) vB vD) vB vg (vm.1.1,vq.1.1,vu.1.1,(0:Int),(0:Int),()) s))))))) (Q0 (Q8a vg (4:Int)) (dM ve (∀ (vj:iw) (vl:oP) (vm:xZ) (vn:B8),CA ve vj vm (Q8b vj) (∀ (vo:iw) (vp:oP) (vq:MZ) (vr:Sk),Q8i (nN (Aw vj) (Qg (4:Int)) vo vq) vo vg (vm.1.1,(0:Int),Q5T (vq.1.1,Qm)) s))) (Q0 (Q8a vg (5:Int)) (dM ve (∀ (vj:iw) (vl:oP) (vm:xZ) (vn:B8),Q8i (fE (Aw ve) (Qg (2:Int)) vj vm) vj vg ((0:Int),vm.1.1,Q5S (0:Int)) s)) (Q0 (Q8a vg (6:Int)) (dM ve (∀ (vj:iw) (vl:oP) (vm:xZ) (vn:B8),Q2Z (fE (Aw ve) (Qg (2:Int)) vj vm) (Q7 (eJ () ((vj.1.1,()),())) (Q8h vj false Q8 (1:Int) (∀ (vo:iw) (vp:oP) (vq:Ie) (vr:zR),Q8j (dO ((vj.1.1,Q8),()) (Qg (1:Int)) vo vq) vo vg vm vj s)) (Q8h vj true Qq (1:Int) (∀ (vo:iw) (vp:oP) (vq:Ie) (vr:zR),Q8j (dO ((vj.1.1,Qq),()) (Qg (1:Int)) vo vq) vo vg vm vj s))))) (lU ve.1.2.1 ve.1.1 () (WA (IntKind.i64.wrap vg.1.1)) s))))))))))) (by kernel_rfl) ?_⟩
 delta Q7 Q6 oO lG Qn kA cR Qs Q3 ya Qr Qk mJ Q4 JY Q0 gC uI mB QK Qg Q5b Q10 dD Q3j K5 Ql ZE Q5T Q5S Q5R Q2Z WA GV F2 Q8 lU Q8i Qm y9 ta Aw Q8a Q8c Qq CA fY dM Q8h Q8m Q8j Q8b;have lt2: ∀n,(fM n).length=2:=fun n=>rfl;have lt4: ∀n,(kI n).length=4:=fun n=>rfl;obtain ⟨kind,nonce,serial,dI,n,sum,lead,hU,rfl⟩:=(show CJ s from hp);have hd:=GH hU;obtain ⟨hM,⟨n1,n2⟩,⟨s1,s2⟩,⟨a1,a2⟩,⟨u1,u2⟩⟩:=hU;have hM2:=hM;obtain ⟨hz,hl,hl0,hl1,hk⟩:=hM;have hzl:(fV n).length=n:=List.length_replicate;have hz0:fV n= []→n=0:=fun e=>by rw [←hzl,e];rfl
 have hzz:([]:List (Row [Kd.int IntKind.u8]))=fV 0:=rfl;rw [hzl] at hl;rcases hk with ⟨rfl|rfl,rfl,rfl,e,rfl,rfl⟩|⟨rfl,rfl,rfl,rfl,hne⟩|⟨rfl,rfl,rfl,e,rfl⟩|⟨rfl,rfl,rfl,e,rfl,rfl⟩|⟨rfl,rfl,rfl,e,rfl⟩
 ·obtain rfl:n=0:=hz0 e;rw [pk] at*;have hb:N4 1 nonce 0 0 0 0 0=80::1::kI nonce:=rfl;rw [hb] at hd ⊢;have hO:=gG (b:=80::1::kI nonce) (by show List.length _+1+1≤900;simp only [List.length_append,List.length_cons,List.length_nil,lt2,lt4];omega)
  simp only [gL];simp only [cl];refine ⟨hO,⟨rfl,by decide,by decide,(by show (1:Int)≤((List.length _+1+1:Nat):Int);omega),(by show List.length _+1+1≤1000;simp only [List.length_append,List.length_cons,List.length_nil,lt2,lt4];omega)⟩,fun x1 z1 q1=>?_⟩
  obtain ⟨e1,e2,e3⟩:=(show x1.1.2.1=false∧x1.1.1=1::kI nonce∧z1.1.1=80 from q1);simp only [e2,e3,eq_self_iff_true,Int.reduceEq,Int.reduceLT,false_implies,not_true_eq_false,not_false_eq_true,Bool.false_eq_true,Bool.true_eq_false,reduceCtorEq];refine ⟨⟨rfl,by decide,by decide,(by show (1:Int)≤((List.length _+1:Nat):Int);omega),(by show List.length _+1≤1000;simp only [List.length_append,List.length_cons,List.length_nil,lt2,lt4];omega)⟩,fun x2 z2 q2=>?_⟩
  obtain ⟨f1,f2,f3⟩:=(show x2.1.2.1=false∧x2.1.1=kI nonce∧z2.1.1=1 from q2);simp only [f1,f2,f3,show IntKind.i64.wrap 1=1 by decide,show IntKind.i64.wrap 2=2 by decide,show IntKind.i64.wrap 3=3 by decide,show IntKind.i64.wrap 4=4 by decide,show IntKind.i64.wrap 5=5 by decide,show IntKind.i64.wrap 6=6 by decide,eq_self_iff_true,Int.reduceEq,Int.reduceLT,false_implies,not_true_eq_false,not_false_eq_true,Bool.false_eq_true,Bool.true_eq_false,reduceCtorEq,eq_self_iff_true,true_and,and_true,and_self,and_imp,true_implies,implies_true,forall_const,List.take_length,decide_eq_true_eq,decide_eq_false_iff_not,beq_iff_eq,beq_eq_false_iff_ne,bne_iff_ne,bne_eq_false_iff_eq,Bool.not_eq_true',Bool.not_eq_false',ne_eq,not_true_eq_false,not_false_eq_true,show (OfNat.ofNat (0:Nat):Int)=0 from rfl,Int.toNat_natCast]
  refine ⟨⟨rfl,by decide,by decide,(by show (4:Int)≤((kI nonce:List UInt8).length:Int);simp only [List.length_append,List.length_cons,List.length_nil,lt2,lt4];omega),(by show (kI nonce:List UInt8).length≤1000;simp only [List.length_append,List.length_cons,List.length_nil,lt2,lt4];omega)⟩,fun x z q=>?_⟩
  obtain ⟨g1,g2,g3⟩:=(show x.1.2.1=false∧x.1.1= []∧z.1.1=((iP (kI nonce) 4:Nat):Int) from q);rw [show iP (kI nonce) 4=nonce.toNat from be4 n1 n2 [],Int.toNat_of_nonneg n1] at g3;simp only [g1,g2,g3,eq_self_iff_true,Int.reduceEq,Int.reduceLT,false_implies,not_true_eq_false,not_false_eq_true,Bool.false_eq_true,Bool.true_eq_false,reduceCtorEq,eq_self_iff_true,true_and,and_true,and_self,and_imp,true_implies,implies_true,forall_const,List.take_length,decide_eq_true_eq,decide_eq_false_iff_not,beq_iff_eq,beq_eq_false_iff_ne,bne_iff_ne,bne_eq_false_iff_eq,Bool.not_eq_true',Bool.not_eq_false',ne_eq,not_true_eq_false,not_false_eq_true,show (OfNat.ofNat (0:Nat):Int)=0 from rfl,Int.toNat_natCast];clear g1 g2 g3 q;exact ⟨hM2,hd.symm,rfl⟩
 ·obtain rfl:n=0:=hz0 e;rw [pk] at*;have hb:N4 2 nonce 0 0 0 0 0=80::2::kI nonce:=rfl;rw [hb] at hd ⊢;have hO:=gG (b:=80::2::kI nonce) (by show List.length _+1+1≤900;simp only [List.length_append,List.length_cons,List.length_nil,lt2,lt4];omega)
  simp only [gL];simp only [cl];refine ⟨hO,⟨rfl,by decide,by decide,(by show (1:Int)≤((List.length _+1+1:Nat):Int);omega),(by show List.length _+1+1≤1000;simp only [List.length_append,List.length_cons,List.length_nil,lt2,lt4];omega)⟩,fun x1 z1 q1=>?_⟩
  obtain ⟨e1,e2,e3⟩:=(show x1.1.2.1=false∧x1.1.1=2::kI nonce∧z1.1.1=80 from q1);simp only [e2,e3,eq_self_iff_true,Int.reduceEq,Int.reduceLT,false_implies,not_true_eq_false,not_false_eq_true,Bool.false_eq_true,Bool.true_eq_false,reduceCtorEq];refine ⟨⟨rfl,by decide,by decide,(by show (1:Int)≤((List.length _+1:Nat):Int);omega),(by show List.length _+1≤1000;simp only [List.length_append,List.length_cons,List.length_nil,lt2,lt4];omega)⟩,fun x2 z2 q2=>?_⟩
  obtain ⟨f1,f2,f3⟩:=(show x2.1.2.1=false∧x2.1.1=kI nonce∧z2.1.1=2 from q2);simp only [f1,f2,f3,show IntKind.i64.wrap 1=1 by decide,show IntKind.i64.wrap 2=2 by decide,show IntKind.i64.wrap 3=3 by decide,show IntKind.i64.wrap 4=4 by decide,show IntKind.i64.wrap 5=5 by decide,show IntKind.i64.wrap 6=6 by decide,eq_self_iff_true,Int.reduceEq,Int.reduceLT,false_implies,not_true_eq_false,not_false_eq_true,Bool.false_eq_true,Bool.true_eq_false,reduceCtorEq,eq_self_iff_true,true_and,and_true,and_self,and_imp,true_implies,implies_true,forall_const,List.take_length,decide_eq_true_eq,decide_eq_false_iff_not,beq_iff_eq,beq_eq_false_iff_ne,bne_iff_ne,bne_eq_false_iff_eq,Bool.not_eq_true',Bool.not_eq_false',ne_eq,not_true_eq_false,not_false_eq_true,show (OfNat.ofNat (0:Nat):Int)=0 from rfl,Int.toNat_natCast]
  refine ⟨⟨rfl,by decide,by decide,(by show (4:Int)≤((kI nonce:List UInt8).length:Int);simp only [List.length_append,List.length_cons,List.length_nil,lt2,lt4];omega),(by show (kI nonce:List UInt8).length≤1000;simp only [List.length_append,List.length_cons,List.length_nil,lt2,lt4];omega)⟩,fun x z q=>?_⟩
  obtain ⟨g1,g2,g3⟩:=(show x.1.2.1=false∧x.1.1= []∧z.1.1=((iP (kI nonce) 4:Nat):Int) from q);rw [show iP (kI nonce) 4=nonce.toNat from be4 n1 n2 [],Int.toNat_of_nonneg n1] at g3;simp only [g1,g2,g3,eq_self_iff_true,Int.reduceEq,Int.reduceLT,false_implies,not_true_eq_false,not_false_eq_true,Bool.false_eq_true,Bool.true_eq_false,reduceCtorEq,eq_self_iff_true,true_and,and_true,and_self,and_imp,true_implies,implies_true,forall_const,List.take_length,decide_eq_true_eq,decide_eq_false_iff_not,beq_iff_eq,beq_eq_false_iff_ne,bne_iff_ne,bne_eq_false_iff_eq,Bool.not_eq_true',Bool.not_eq_false',ne_eq,not_true_eq_false,not_false_eq_true,show (OfNat.ofNat (0:Nat):Int)=0 from rfl,Int.toNat_natCast];clear g1 g2 g3 q;exact ⟨hM2,hd.symm,rfl⟩
 ·have hn:0<n:=by
   rcases Nat.eq_zero_or_pos n with h|h
   ·subst h;exact absurd rfl hne
   ·exact h
  have hof:(UInt8.ofNat n).toNat=n:=Wh (by omega)
  rw [pk] at*;have hb:N4 3 0 serial dI n 0 0=80::3::(fM serial++(fM dI++ [UInt8.ofNat n,0,UInt8.ofNat n])):=by unfold N4;rw [Oc (n:=(n:Int)) (by omega) (by omega)];rfl
  rw [hb] at hd ⊢;have hO:=gG (b:=80::3::(fM serial++(fM dI++ [UInt8.ofNat n,0,UInt8.ofNat n]))) (by show List.length _+1+1≤900;simp only [List.length_append,List.length_cons,List.length_nil,lt2,lt4];omega)
  simp only [gL];simp only [cl];refine ⟨hO,⟨rfl,by decide,by decide,(by show (1:Int)≤((List.length _+1+1:Nat):Int);omega),(by show List.length _+1+1≤1000;simp only [List.length_append,List.length_cons,List.length_nil,lt2,lt4];omega)⟩,fun x1 z1 q1=>?_⟩
  obtain ⟨e1,e2,e3⟩:=(show x1.1.2.1=false∧x1.1.1=3::(fM serial++(fM dI++ [UInt8.ofNat n,0,UInt8.ofNat n]))∧z1.1.1=80 from q1);simp only [e2,e3,eq_self_iff_true,Int.reduceEq,Int.reduceLT,false_implies,not_true_eq_false,not_false_eq_true,Bool.false_eq_true,Bool.true_eq_false,reduceCtorEq];refine ⟨⟨rfl,by decide,by decide,(by show (1:Int)≤((List.length _+1:Nat):Int);omega),(by show List.length _+1≤1000;simp only [List.length_append,List.length_cons,List.length_nil,lt2,lt4];omega)⟩,fun x2 z2 q2=>?_⟩
  obtain ⟨f1,f2,f3⟩:=(show x2.1.2.1=false∧x2.1.1=(fM serial++(fM dI++ [UInt8.ofNat n,0,UInt8.ofNat n]))∧z2.1.1=3 from q2);simp only [f1,f2,f3,show IntKind.i64.wrap 1=1 by decide,show IntKind.i64.wrap 2=2 by decide,show IntKind.i64.wrap 3=3 by decide,show IntKind.i64.wrap 4=4 by decide,show IntKind.i64.wrap 5=5 by decide,show IntKind.i64.wrap 6=6 by decide,eq_self_iff_true,Int.reduceEq,Int.reduceLT,false_implies,not_true_eq_false,not_false_eq_true,Bool.false_eq_true,Bool.true_eq_false,reduceCtorEq,eq_self_iff_true,true_and,and_true,and_self,and_imp,true_implies,implies_true,forall_const,List.take_length,decide_eq_true_eq,decide_eq_false_iff_not,beq_iff_eq,beq_eq_false_iff_ne,bne_iff_ne,bne_eq_false_iff_eq,Bool.not_eq_true',Bool.not_eq_false',ne_eq,not_true_eq_false,not_false_eq_true,show (OfNat.ofNat (0:Nat):Int)=0 from rfl,Int.toNat_natCast]
  refine ⟨⟨rfl,by decide,by decide,(by show (2:Int)≤(((fM serial++(fM dI++ [UInt8.ofNat n,0,UInt8.ofNat n])):List UInt8).length:Int);simp only [List.length_append,List.length_cons,List.length_nil,lt2,lt4];omega),(by show ((fM serial++(fM dI++ [UInt8.ofNat n,0,UInt8.ofNat n])):List UInt8).length≤1000;simp only [List.length_append,List.length_cons,List.length_nil,lt2,lt4];omega)⟩,fun x z q=>?_⟩
  obtain ⟨g1,g2,g3⟩:=(show x.1.2.1=false∧x.1.1=fM dI++ [UInt8.ofNat n,0,UInt8.ofNat n]∧z.1.1=((iP ((fM serial++(fM dI++ [UInt8.ofNat n,0,UInt8.ofNat n]))) 2:Nat):Int) from q);rw [Wj s1 s2,Int.toNat_of_nonneg s1] at g3;simp only [g1,g2,g3,eq_self_iff_true,Int.reduceEq,Int.reduceLT,false_implies,not_true_eq_false,not_false_eq_true,Bool.false_eq_true,Bool.true_eq_false,reduceCtorEq,eq_self_iff_true,true_and,and_true,and_self,and_imp,true_implies,implies_true,forall_const,List.take_length,decide_eq_true_eq,decide_eq_false_iff_not,beq_iff_eq,beq_eq_false_iff_ne,bne_iff_ne,bne_eq_false_iff_eq,Bool.not_eq_true',Bool.not_eq_false',ne_eq,not_true_eq_false,not_false_eq_true,show (OfNat.ofNat (0:Nat):Int)=0 from rfl,Int.toNat_natCast];clear g1 g2 g3 q;refine ⟨⟨rfl,by decide,by decide,(by show (2:Int)≤((fM dI++ [UInt8.ofNat n,0,UInt8.ofNat n]:List UInt8).length:Int);simp only [List.length_append,List.length_cons,List.length_nil,lt2,lt4];omega),(by show (fM dI++ [UInt8.ofNat n,0,UInt8.ofNat n]:List UInt8).length≤1000;simp only [List.length_append,List.length_cons,List.length_nil,lt2,lt4];omega)⟩,fun x z q=>?_⟩
  obtain ⟨g1,g2,g3⟩:=(show x.1.2.1=false∧x.1.1= [UInt8.ofNat n,0,UInt8.ofNat n]∧z.1.1=((iP (fM dI++ [UInt8.ofNat n,0,UInt8.ofNat n]) 2:Nat):Int) from q);rw [Wj a1 a2,Int.toNat_of_nonneg a1] at g3;simp only [g1,g2,g3,eq_self_iff_true,Int.reduceEq,Int.reduceLT,false_implies,not_true_eq_false,not_false_eq_true,Bool.false_eq_true,Bool.true_eq_false,reduceCtorEq,eq_self_iff_true,true_and,and_true,and_self,and_imp,true_implies,implies_true,forall_const,List.take_length,decide_eq_true_eq,decide_eq_false_iff_not,beq_iff_eq,beq_eq_false_iff_ne,bne_iff_ne,bne_eq_false_iff_eq,Bool.not_eq_true',Bool.not_eq_false',ne_eq,not_true_eq_false,not_false_eq_true,show (OfNat.ofNat (0:Nat):Int)=0 from rfl,Int.toNat_natCast];clear g1 g2 g3 q;have hb0:cG [UInt8.ofNat n,0,UInt8.ofNat n] 0=n:=by show ((UInt8.ofNat n).toNat:Int)=n;rw [hof]
  refine ⟨⟨Nat.le_refl 3,by show (3:Nat)≤900;decide,by rw [hb0];omega,by rw [hb0];omega,rfl,rfl⟩,fun x z k h1 h2 q=>⟨⟨rfl,by decide,by show (3:Int)≤3;decide⟩,fun x z4 q4=>?_⟩⟩
  have g:z.1.1=fV n:=by
   have q:z.1.1=fV (cG [UInt8.ofNat n,0,UInt8.ofNat n] 0).toNat:=q;rw [q,hb0,Int.toNat_natCast]
  obtain ⟨g1,g2,g3⟩:=(show x.1.2.1=false∧x.1.1= []∧z4.1.1= [UInt8.ofNat n,0,UInt8.ofNat n] from q4);simp only [g,g1,g2,eq_self_iff_true,Int.reduceEq,Int.reduceLT,false_implies,not_true_eq_false,not_false_eq_true,Bool.false_eq_true,Bool.true_eq_false,reduceCtorEq,eq_self_iff_true,true_and,and_true,and_self,and_imp,true_implies,implies_true,forall_const,List.take_length,decide_eq_true_eq,decide_eq_false_iff_not,beq_iff_eq,beq_eq_false_iff_ne,bne_iff_ne,bne_eq_false_iff_eq,Bool.not_eq_true',Bool.not_eq_false',ne_eq,not_true_eq_false,not_false_eq_true,show (OfNat.ofNat (0:Nat):Int)=0 from rfl,Int.toNat_natCast];exact ⟨hM2,by show (_,_,_,_,List.length _,_,_)=_;simp only [hzl];exact hd.symm,by show fV n=fV (List.length (fV n));rw [hzl]⟩
 ·obtain rfl:n=0:=hz0 e;rw [pk] at*;have hb:N4 4 0 serial 0 0 sum 0=80::4::(fM serial++kI sum):=rfl;rw [hb] at hd ⊢;have hO:=gG (b:=80::4::(fM serial++kI sum)) (by show List.length _+1+1≤900;simp only [List.length_append,List.length_cons,List.length_nil,lt2,lt4];omega)
  simp only [gL];simp only [cl];refine ⟨hO,⟨rfl,by decide,by decide,(by show (1:Int)≤((List.length _+1+1:Nat):Int);omega),(by show List.length _+1+1≤1000;simp only [List.length_append,List.length_cons,List.length_nil,lt2,lt4];omega)⟩,fun x1 z1 q1=>?_⟩
  obtain ⟨e1,e2,e3⟩:=(show x1.1.2.1=false∧x1.1.1=4::(fM serial++kI sum)∧z1.1.1=80 from q1);simp only [e2,e3,eq_self_iff_true,Int.reduceEq,Int.reduceLT,false_implies,not_true_eq_false,not_false_eq_true,Bool.false_eq_true,Bool.true_eq_false,reduceCtorEq];refine ⟨⟨rfl,by decide,by decide,(by show (1:Int)≤((List.length _+1:Nat):Int);omega),(by show List.length _+1≤1000;simp only [List.length_append,List.length_cons,List.length_nil,lt2,lt4];omega)⟩,fun x2 z2 q2=>?_⟩
  obtain ⟨f1,f2,f3⟩:=(show x2.1.2.1=false∧x2.1.1=(fM serial++kI sum)∧z2.1.1=4 from q2);simp only [f1,f2,f3,show IntKind.i64.wrap 1=1 by decide,show IntKind.i64.wrap 2=2 by decide,show IntKind.i64.wrap 3=3 by decide,show IntKind.i64.wrap 4=4 by decide,show IntKind.i64.wrap 5=5 by decide,show IntKind.i64.wrap 6=6 by decide,eq_self_iff_true,Int.reduceEq,Int.reduceLT,false_implies,not_true_eq_false,not_false_eq_true,Bool.false_eq_true,Bool.true_eq_false,reduceCtorEq,eq_self_iff_true,true_and,and_true,and_self,and_imp,true_implies,implies_true,forall_const,List.take_length,decide_eq_true_eq,decide_eq_false_iff_not,beq_iff_eq,beq_eq_false_iff_ne,bne_iff_ne,bne_eq_false_iff_eq,Bool.not_eq_true',Bool.not_eq_false',ne_eq,not_true_eq_false,not_false_eq_true,show (OfNat.ofNat (0:Nat):Int)=0 from rfl,Int.toNat_natCast]
  refine ⟨⟨rfl,by decide,by decide,(by show (2:Int)≤(((fM serial++kI sum):List UInt8).length:Int);simp only [List.length_append,List.length_cons,List.length_nil,lt2,lt4];omega),(by show ((fM serial++kI sum):List UInt8).length≤1000;simp only [List.length_append,List.length_cons,List.length_nil,lt2,lt4];omega)⟩,fun x z q=>?_⟩
  obtain ⟨g1,g2,g3⟩:=(show x.1.2.1=false∧x.1.1=kI sum∧z.1.1=((iP ((fM serial++kI sum)) 2:Nat):Int) from q);rw [Wj s1 s2,Int.toNat_of_nonneg s1] at g3;simp only [g1,g2,g3,eq_self_iff_true,Int.reduceEq,Int.reduceLT,false_implies,not_true_eq_false,not_false_eq_true,Bool.false_eq_true,Bool.true_eq_false,reduceCtorEq,eq_self_iff_true,true_and,and_true,and_self,and_imp,true_implies,implies_true,forall_const,List.take_length,decide_eq_true_eq,decide_eq_false_iff_not,beq_iff_eq,beq_eq_false_iff_ne,bne_iff_ne,bne_eq_false_iff_eq,Bool.not_eq_true',Bool.not_eq_false',ne_eq,not_true_eq_false,not_false_eq_true,show (OfNat.ofNat (0:Nat):Int)=0 from rfl,Int.toNat_natCast];clear g1 g2 g3 q;refine ⟨⟨rfl,by decide,by decide,(by show (4:Int)≤((kI sum:List UInt8).length:Int);simp only [List.length_append,List.length_cons,List.length_nil,lt2,lt4];omega),(by show (kI sum:List UInt8).length≤1000;simp only [List.length_append,List.length_cons,List.length_nil,lt2,lt4];omega)⟩,fun x z q=>?_⟩
  obtain ⟨g1,g2,g3⟩:=(show x.1.2.1=false∧x.1.1= []∧z.1.1=((iP (kI sum) 4:Nat):Int) from q);rw [show iP (kI sum) 4=sum.toNat from be4 u1 u2 [],Int.toNat_of_nonneg u1] at g3;simp only [g1,g2,g3,eq_self_iff_true,Int.reduceEq,Int.reduceLT,false_implies,not_true_eq_false,not_false_eq_true,Bool.false_eq_true,Bool.true_eq_false,reduceCtorEq,eq_self_iff_true,true_and,and_true,and_self,and_imp,true_implies,implies_true,forall_const,List.take_length,decide_eq_true_eq,decide_eq_false_iff_not,beq_iff_eq,beq_eq_false_iff_ne,bne_iff_ne,bne_eq_false_iff_eq,Bool.not_eq_true',Bool.not_eq_false',ne_eq,not_true_eq_false,not_false_eq_true,show (OfNat.ofNat (0:Nat):Int)=0 from rfl,Int.toNat_natCast];clear g1 g2 g3 q;exact ⟨hM2,hd.symm,rfl⟩
 ·obtain rfl:n=0:=hz0 e;rw [pk] at*;have hb:N4 5 0 0 dI 0 0 0=80::5::fM dI:=rfl;rw [hb] at hd ⊢;have hO:=gG (b:=80::5::fM dI) (by show List.length _+1+1≤900;simp only [List.length_append,List.length_cons,List.length_nil,lt2,lt4];omega)
  simp only [gL];simp only [cl];refine ⟨hO,⟨rfl,by decide,by decide,(by show (1:Int)≤((List.length _+1+1:Nat):Int);omega),(by show List.length _+1+1≤1000;simp only [List.length_append,List.length_cons,List.length_nil,lt2,lt4];omega)⟩,fun x1 z1 q1=>?_⟩
  obtain ⟨e1,e2,e3⟩:=(show x1.1.2.1=false∧x1.1.1=5::fM dI∧z1.1.1=80 from q1);simp only [e2,e3,eq_self_iff_true,Int.reduceEq,Int.reduceLT,false_implies,not_true_eq_false,not_false_eq_true,Bool.false_eq_true,Bool.true_eq_false,reduceCtorEq];refine ⟨⟨rfl,by decide,by decide,(by show (1:Int)≤((List.length _+1:Nat):Int);omega),(by show List.length _+1≤1000;simp only [List.length_append,List.length_cons,List.length_nil,lt2,lt4];omega)⟩,fun x2 z2 q2=>?_⟩
  obtain ⟨f1,f2,f3⟩:=(show x2.1.2.1=false∧x2.1.1=fM dI∧z2.1.1=5 from q2);simp only [f1,f2,f3,show IntKind.i64.wrap 1=1 by decide,show IntKind.i64.wrap 2=2 by decide,show IntKind.i64.wrap 3=3 by decide,show IntKind.i64.wrap 4=4 by decide,show IntKind.i64.wrap 5=5 by decide,show IntKind.i64.wrap 6=6 by decide,eq_self_iff_true,Int.reduceEq,Int.reduceLT,false_implies,not_true_eq_false,not_false_eq_true,Bool.false_eq_true,Bool.true_eq_false,reduceCtorEq,eq_self_iff_true,true_and,and_true,and_self,and_imp,true_implies,implies_true,forall_const,List.take_length,decide_eq_true_eq,decide_eq_false_iff_not,beq_iff_eq,beq_eq_false_iff_ne,bne_iff_ne,bne_eq_false_iff_eq,Bool.not_eq_true',Bool.not_eq_false',ne_eq,not_true_eq_false,not_false_eq_true,show (OfNat.ofNat (0:Nat):Int)=0 from rfl,Int.toNat_natCast]
  refine ⟨⟨rfl,by decide,by decide,(by show (2:Int)≤((fM dI:List UInt8).length:Int);simp only [List.length_append,List.length_cons,List.length_nil,lt2,lt4];omega),(by show (fM dI:List UInt8).length≤1000;simp only [List.length_append,List.length_cons,List.length_nil,lt2,lt4];omega)⟩,fun x z q=>?_⟩
  obtain ⟨g1,g2,g3⟩:=(show x.1.2.1=false∧x.1.1= []∧z.1.1=((iP (fM dI) 2:Nat):Int) from q);rw [show iP (fM dI) 2=dI.toNat from Wj a1 a2 [],Int.toNat_of_nonneg a1] at g3;simp only [g1,g2,g3,eq_self_iff_true,Int.reduceEq,Int.reduceLT,false_implies,not_true_eq_false,not_false_eq_true,Bool.false_eq_true,Bool.true_eq_false,reduceCtorEq,eq_self_iff_true,true_and,and_true,and_self,and_imp,true_implies,implies_true,forall_const,List.take_length,decide_eq_true_eq,decide_eq_false_iff_not,beq_iff_eq,beq_eq_false_iff_ne,bne_iff_ne,bne_eq_false_iff_eq,Bool.not_eq_true',Bool.not_eq_false',ne_eq,not_true_eq_false,not_false_eq_true,show (OfNat.ofNat (0:Nat):Int)=0 from rfl,Int.toNat_natCast];clear g1 g2 g3 q;exact ⟨hM2,hd.symm,rfl⟩
 ·obtain rfl:n=0:=hz0 e;obtain ⟨z0,z1⟩:=zH hl0 hl1;have hof:(UInt8.ofNat (zz lead).toNat).toNat=(zz lead).toNat:=Wh (by omega)
  rw [pk] at*;have hb:N4 6 0 serial 0 0 0 lead=80::6::(fM serial++ [UInt8.ofNat (zz lead).toNat]):=by unfold N4;rw [Oc (n:=zz lead) (by omega) (by omega)];rfl
  rw [hb] at hd ⊢;have hO:=gG (b:=80::6::(fM serial++ [UInt8.ofNat (zz lead).toNat])) (by show List.length _+1+1≤900;simp only [List.length_append,List.length_cons,List.length_nil,lt2,lt4];omega)
  simp only [gL];simp only [cl];refine ⟨hO,⟨rfl,by decide,by decide,(by show (1:Int)≤((List.length _+1+1:Nat):Int);omega),(by show List.length _+1+1≤1000;simp only [List.length_append,List.length_cons,List.length_nil,lt2,lt4];omega)⟩,fun x1 z1 q1=>?_⟩
  obtain ⟨e1,e2,e3⟩:=(show x1.1.2.1=false∧x1.1.1=6::(fM serial++ [UInt8.ofNat (zz lead).toNat])∧z1.1.1=80 from q1);simp only [e2,e3,eq_self_iff_true,Int.reduceEq,Int.reduceLT,false_implies,not_true_eq_false,not_false_eq_true,Bool.false_eq_true,Bool.true_eq_false,reduceCtorEq];refine ⟨⟨rfl,by decide,by decide,(by show (1:Int)≤((List.length _+1:Nat):Int);omega),(by show List.length _+1≤1000;simp only [List.length_append,List.length_cons,List.length_nil,lt2,lt4];omega)⟩,fun x2 z2 q2=>?_⟩
  obtain ⟨f1,f2,f3⟩:=(show x2.1.2.1=false∧x2.1.1=(fM serial++ [UInt8.ofNat (zz lead).toNat])∧z2.1.1=6 from q2);simp only [f1,f2,f3,show IntKind.i64.wrap 1=1 by decide,show IntKind.i64.wrap 2=2 by decide,show IntKind.i64.wrap 3=3 by decide,show IntKind.i64.wrap 4=4 by decide,show IntKind.i64.wrap 5=5 by decide,show IntKind.i64.wrap 6=6 by decide,eq_self_iff_true,Int.reduceEq,Int.reduceLT,false_implies,not_true_eq_false,not_false_eq_true,Bool.false_eq_true,Bool.true_eq_false,reduceCtorEq,eq_self_iff_true,true_and,and_true,and_self,and_imp,true_implies,implies_true,forall_const,List.take_length,decide_eq_true_eq,decide_eq_false_iff_not,beq_iff_eq,beq_eq_false_iff_ne,bne_iff_ne,bne_eq_false_iff_eq,Bool.not_eq_true',Bool.not_eq_false',ne_eq,not_true_eq_false,not_false_eq_true,show (OfNat.ofNat (0:Nat):Int)=0 from rfl,Int.toNat_natCast]
  refine ⟨⟨rfl,by decide,by decide,(by show (2:Int)≤(((fM serial++ [UInt8.ofNat (zz lead).toNat]):List UInt8).length:Int);simp only [List.length_append,List.length_cons,List.length_nil,lt2,lt4];omega),(by show ((fM serial++ [UInt8.ofNat (zz lead).toNat]):List UInt8).length≤1000;simp only [List.length_append,List.length_cons,List.length_nil,lt2,lt4];omega)⟩,fun x z q=>?_⟩
  obtain ⟨g1,g2,g3⟩:=(show x.1.2.1=false∧x.1.1= [UInt8.ofNat (zz lead).toNat]∧z.1.1=((iP ((fM serial++ [UInt8.ofNat (zz lead).toNat])) 2:Nat):Int) from q);rw [Wj s1 s2,Int.toNat_of_nonneg s1] at g3;simp only [g1,g2,g3,eq_self_iff_true,Int.reduceEq,Int.reduceLT,false_implies,not_true_eq_false,not_false_eq_true,Bool.false_eq_true,Bool.true_eq_false,reduceCtorEq,eq_self_iff_true,true_and,and_true,and_self,and_imp,true_implies,implies_true,forall_const,List.take_length,decide_eq_true_eq,decide_eq_false_iff_not,beq_iff_eq,beq_eq_false_iff_ne,bne_iff_ne,bne_eq_false_iff_eq,Bool.not_eq_true',Bool.not_eq_false',ne_eq,not_true_eq_false,not_false_eq_true,show (OfNat.ofNat (0:Nat):Int)=0 from rfl,Int.toNat_natCast];clear g1 g2 g3 q;have hb0:cG [UInt8.ofNat (zz lead).toNat] 0=zz lead:=by show ((UInt8.ofNat (zz lead).toNat).toNat:Int)=zz lead;rw [hof,Int.toNat_of_nonneg z0]
  have hW:=acz (b:=zz lead) z0 (by omega)
  simp only [hb0];rw [hW,a0W];refine ⟨⟨Nat.zero_lt_one,by rw [hb0];omega⟩,⟨rfl,by decide,by show (1:Int)≤1;decide⟩,fun x z4 q4=>?_⟩
  obtain ⟨g1,g2,g3⟩:=(show x.1.2.1=false∧x.1.1= []∧z4.1.1= [UInt8.ofNat (zz lead).toNat] from q4);simp only [g1,g2,eq_self_iff_true,Int.reduceEq,Int.reduceLT,false_implies,not_true_eq_false,not_false_eq_true,Bool.false_eq_true,Bool.true_eq_false,reduceCtorEq,eq_self_iff_true,true_and,and_true,and_self,and_imp,true_implies,implies_true,forall_const,List.take_length,decide_eq_true_eq,decide_eq_false_iff_not,beq_iff_eq,beq_eq_false_iff_ne,bne_iff_ne,bne_eq_false_iff_eq,Bool.not_eq_true',Bool.not_eq_false',ne_eq,not_true_eq_false,not_false_eq_true,show (OfNat.ofNat (0:Nat):Int)=0 from rfl,Int.toNat_natCast];exact ⟨hM2,hd.symm,rfl⟩
noncomputable def fF:=C2.add 90 PI
end Go.Proofs.YtfdmjoddhjmokaaGreatDoor
namespace Go.Proofs.YtfdmjoddhjmokaaGreatDoor
open Go.RowKit Rex
set_option linter.unusedVariables false
set_option linter.unusedSimpArgs false
set_option maxRecDepth 100000
def sXs(f d l:Int):List Int:= [f,d,0,l,4194303,0,0,0,0,3,0,0,0,0,4194304,0,0,0,32768,3,0,0,0,0,0]
def sS(f d l:Int)(k:Nat):List UInt8:=((sXs f d l).take k).foldl (fun a x=>a.append (bY x)) []
def n8(f d l:Int):List UInt8:=sS f d l 25
theorem a7k(xs:List Int): ∀a:List UInt8,(xs.foldl (fun a x=>a.append (bY x)) a).length≤a.length+10*xs.length:=by
 induction xs with
 |nil=>intro a;simp
 |cons x xs ih=>
  intro a;have h:=ih (a.append (bY x));have h2:=ee x;rw [show (a.append (bY x)).length=a.length+(bY x).length from List.length_append] at h;rw [List.foldl_cons,List.length_cons];omega
theorem Oq(f d l:Int)(k:Nat):(sS f d l k).length≤250:=by
 have h:=a7k ((sXs f d l).take k) [];have h2:((sXs f d l).take k).length≤25:=by rw [List.length_take];exact Nat.min_le_right _ _
 unfold sS;rw [List.length_nil] at h;omega
noncomputable def a0I:FC:=fun us=>match us with
 | [.v (.one (.int .i64 _ f))]=>some (some (0≤f∧f≤65535),.v (.one (.int .u16 false (f))))
 |_=>none
theorem a3R(f:Int):goal ⟨Mw,Tryz.prog,eE.l,fF.l,B0,none,false,[],none⟩ bK 400 Tryz.f180 [.v (.one (.int .i64 false f))] [] (fun r _=>dm mW r (.v (.one (.int .u16 false (f)))))=(Q7Q f=f):=by kernel_rfl
theorem a8d:bf Tryz.prog 180 a0I:=by
 refine bB (cx Mw [] eE fF) Tryz.func180 (by kernel_rfl) (by kernel_rfl) ?_
 intro us p v h hp;unfold a0I at h;split at h
 ·rename_i k0 f;cases h;have hp:0≤f∧f≤65535:=hp;refine ⟨rfl,bK,400,[.v (.one (.int .i64 false f))],by simp [g9,dm,xn,ft,cC,oy,fX,mW],rfl,?_⟩
  rw [a3R];delta Q7Q;exact dn (by simp only [aL,aT,aU];omega)
 ·cases h
noncomputable def KZ:=eE.pu 180 a8d
noncomputable def HI:FC:=fun us=>match us with
 | [.v (.one (.int .i64 _ near)),.v (.one (.int .u16 _ s))]=>some (some (0≤near∧near≤10000∧0≤s∧s≤10000),.cz [.one (.int .i64 false (s)),.one (.int .i64 true (0))])
 |_=>none
def rm(a:Int):Prop:=D8 a (65535:Int)
def Zw(a:Int):Int:=ZE (IntKind.i16.wrap (Q7Q a))
def Aq(a b:Int):Bool:=decide ((1073741824:Int)<(ZE (a+Zw (b-a))))
theorem R8(near:Int)(s:Int):goal ⟨Mw,Tryz.prog,KZ.l,fF.l,B0,none,false,[273],none⟩ bK 400 Tryz.f228 [.v (.one (.int .i64 false near)),.v (.one (.int .u16 false s))] [] (fun r _=>dm mW r (.cz [.one (.int .i64 false (s)),.one (.int .i64 true (0))]))=(Ql (decide (near<(0:Int))) (Q0 (decide ((1073741824:Int)<near)) (fi s∧CW) (Q7 (rm near) (Q4 (decide ((ZE (near+Zw (s-near)))<(0:Int))) (Q0 (Aq near s) (Vl (fi s) (6:Int)) (gk (ZE (near+Zw (s-near))=s)))) (Q3 (decide ((ZE (near+Zw (s-near)))<(0:Int))) (Vl (fi s) (6:Int))))) (fi s∧CW)):=by kernel_rfl
theorem Ul:bf Tryz.prog 228 HI:=by
 refine bB (cx Mw [273] KZ fF) Tryz.func228 (by kernel_rfl) (by kernel_rfl) ?_
 intro us p v h hp;unfold HI at h;split at h
 ·rename_i k0 near k1 s;cases h;have hp:0≤near∧near≤10000∧0≤s∧s≤10000:=hp;refine ⟨rfl,bK,400,[.v (.one (.int .i64 false near)),.v (.one (.int .u16 false s))],by simp [g9,dm,xn,ft,cC,oy,fX,mW],rfl,?_⟩
  rw [R8];delta Q7 oO lG Q3 Q4 Q0 Qt Ql ZE gk D8 CW Vl rm fi Q7Q Zw Aq;obtain ⟨h1,h2,h3,h4⟩:=hp;have hw:IntKind.i64.wrap (near+IntKind.i64.wrap (IntKind.i16.wrap (IntKind.u16.wrap (s-near))))=s:=by
   have e:IntKind.i16.wrap (IntKind.u16.wrap (s-near))=s-near:=by
    have e1:IntKind.u16.wrap (s-near)=(s-near)%65536:=rfl;have e2: ∀m:Int,IntKind.i16.wrap m=if m %65536≥32768 then m %65536-65536 else m %65536:=fun m=>by
     show (if (true&&decide (m %(2^16:Int)≥(2^15:Int)))=true then _ else _)=_;simp;rfl
    rw [e1,e2];split<;>omega
   rw [e,dn (n:=s-near) (by simp only [aL,aT,aU];omega),show near+(s-near)=s by omega]
   exact dn (by simp only [aL,aT,aU];omega)
  simp only [hw];simp only [cl]
  (repeat' (first|(refine And.intro ?_ ?_)|intro _))
  all_goals first|(exfalso;omega)|omega|trivial|rfl|(simp only [aL,aT,aU];omega)
 ·cases h
noncomputable def cQ:=KZ.pu 228 Ul
def bW(x:(Unit))(y:((Int×Unit)×Unit)):Prop:=y.1.1=0∨y.1.1=2097152∨y.1.1= -2097152
def ph(x:(Unit))(y:((Int×Unit)×Unit)):((List UInt8×Unit)×Unit):=((bY (zz y.1.1),()),())
noncomputable def Pt:RC:=qR [false] [] [(false,[.int .i64])] [(false,[.str])] bW ph
theorem OW:aB Tryz.prog 124 Pt:=by
 refine aD (cx Mw [] cQ fF) Tryz.func124 (by kernel_rfl) (by kernel_rfl) rfl rfl rfl ?_
 rintro ⟨⟨⟩⟩ ⟨⟨⟩⟩ ⟨⟨(n:Int),⟨⟩⟩,⟨⟩⟩ ⟨⟨⟨⟩,⟨⟩⟩,⟨⟩⟩ hp;refine ⟨bK,400,af (q:=Q6N () (KG n)∧Q5 True (()=()) (()=()) (y9 (bY (KG n))=ph () (Qg n))) (by kernel_rfl) ?_⟩
 delta Q7 Q6 Q5 Qg Q5b ZE F2 KG y9 Q6N;obtain rfl|rfl|rfl:=(show n=0∨n=2097152∨n= -2097152 from hp)
 ·have e:IntKind.u64.wrap ((BitVec.ofInt 64 (IntKind.u64.wrap (IntKind.i64.wrap (0*2))) ^^^ BitVec.ofInt 64 (IntKind.u64.wrap (0 / 9223372036854775808))).toNat:Int)=zz 0:=by decide
  rw [e];exact ⟨⟨by decide,by decide⟩,trivial,trivial,rfl,rfl,rfl⟩
 ·have e:IntKind.u64.wrap ((BitVec.ofInt 64 (IntKind.u64.wrap (IntKind.i64.wrap (2097152*2))) ^^^ BitVec.ofInt 64 (IntKind.u64.wrap (2097152 / 9223372036854775808))).toNat:Int)=zz 2097152:=by decide
  rw [e];exact ⟨⟨by decide,by decide⟩,trivial,trivial,rfl,rfl,rfl⟩
 ·have e:IntKind.u64.wrap ((BitVec.ofInt 64 (IntKind.u64.wrap (IntKind.i64.wrap (-2097152*2))) ^^^ BitVec.ofInt 64 (IntKind.u64.wrap (-2097152 / 9223372036854775808))).toNat:Int)=zz (-2097152):=by decide
  rw [e];exact ⟨⟨by decide,by decide⟩,trivial,trivial,rfl,rfl,rfl⟩
noncomputable def Kn:=cQ.rd 124 OW
def Ar(x:(Unit))(y:(Sp.Ts zW×Unit)):Prop:=0≤y.1.1∧y.1.1≤600∧0≤y.1.2.1∧y.1.2.1≤4294967295∧1≤y.1.2.2.2.1∧y.1.2.2.2.1≤600
def jA(x:(Unit))(y:(Sp.Ts zW×Unit))(x':(Unit))(z:((Int×Unit)×(Unit×Unit)×Unit)):Prop:=z.1.1=iN (n8 y.1.1 y.1.2.1 y.1.2.2.2.1)
noncomputable def a2V:MC:=qC [false] [] [(true,zW)] [(false,[.int .u32]),(false,[.cl (.int .i64 (0))])] Ar jA
abbrev a1O:Type:=(Int×Unit)×(Unit×Unit)×Unit
def WB(a b c:Int)(d:Nat):Nat:=(sS (Q5b a) (Q5b (ZE b)) (Q5b c) d).length
def xP(a b c:Int)(d:Nat):Prop:=Wz (rB (WB a b c d))
def K6(a b:Prop)(c d e:Int)(f:Nat)(g i j:Prop)(l:Nat)(m:Prop):Prop:=H8 a b (xP c d e f) g i j (xP c d e l) (cq () (((0:Int),()),())) m
def Q8r:a1O:=(Qm,mB)
def sZ(a:Int):Bool:= !(decide ((1:Int)≤a∧a≤(600:Int)))
theorem Lx:ab Tryz.prog 214 a2V:=by
 refine ah (cx Mw [268,302,314,328,371,372,252,287,288] Kn fF) Tryz.func214 (by kernel_rfl) (by kernel_rfl) ?_
 rintro ⟨⟨⟩⟩ ⟨⟨⟩⟩ ⟨⟨(s_fr:Int),(s_dc:Int),⟨⟩,(s_lf:Int),⟨⟩,⟨⟩,⟨⟩,⟨⟩,⟨⟩,⟨⟩,⟨⟩,⟨⟩,⟨⟩,⟨⟩,⟨⟩,⟨⟩,⟨⟩,⟨⟩,⟨⟩,⟨⟩,⟨⟩,⟨⟩,⟨⟩,⟨⟩,⟨⟩,⟨⟩,⟨⟩,⟨⟩,⟨⟩,⟨⟩,⟨⟩,⟨⟩,⟨⟩,⟨⟩,⟨⟩,⟨⟩,⟨⟩,⟨⟩,⟨⟩,⟨⟩,⟨⟩,⟨⟩,⟨⟩,⟨⟩,⟨⟩,⟨⟩,⟨⟩,⟨⟩,⟨⟩,⟨⟩,⟨⟩,⟨⟩,⟨⟩,⟨⟩,⟨⟩,⟨⟩,⟨⟩,⟨⟩,⟨⟩,⟨⟩,⟨⟩⟩,⟨⟩⟩ ⟨⟨⟨⟩,⟨⟩,⟨⟩,⟨⟩,⟨⟩,⟨⟩,⟨⟩,⟨⟩,⟨⟩,⟨⟩,⟨⟩,⟨⟩,⟨⟩,⟨⟩,⟨⟩,⟨⟩,⟨⟩,⟨⟩,⟨⟩,⟨⟩,⟨⟩,⟨⟩,⟨⟩,⟨⟩,⟨⟩,⟨⟩,⟨⟩,⟨⟩,⟨⟩,⟨⟩,⟨⟩,⟨⟩,⟨⟩,⟨⟩,⟨⟩,⟨⟩,⟨⟩,⟨⟩,⟨⟩,⟨⟩,⟨⟩,⟨⟩,⟨⟩,⟨⟩,⟨⟩,⟨⟩,⟨⟩,⟨⟩,⟨⟩,⟨⟩,⟨⟩,⟨⟩,⟨⟩,⟨⟩,⟨⟩,⟨⟩,⟨⟩,⟨⟩,⟨⟩,⟨⟩,⟨⟩⟩,⟨⟩⟩ hf hg hp;refine ⟨(fun bk=>match bk with|887700002=>some {S:=Unit,st:=fun s=>⟨[],[]⟩,ok:=fun s=>True,mu:=fun s=>0,init:=()}|_=>none),4000,af (q:=Q0 (decide ((0:Int)≤s_fr∧s_fr≤(1073741824:Int))) (QK (sZ s_lf) True CW (jA () (stV s_fr s_dc s_lf,()) () Q8r) (Q6N () (Q5b s_fr)∧H8 (Wz ((0:Nat)+(bY (Q5b s_fr)).length)) (Q6N () (Q5b (ZE s_dc))) (Wz (WB s_fr s_dc s_lf (1:Nat)+(bY (Q5b (ZE s_dc))).length)) (cq () (((0:Int),()),())) (xP s_fr s_dc s_lf (2:Nat)) (Q6N () (Q5b s_lf)) (Wz (WB s_fr s_dc s_lf (3:Nat)+(bY (Q5b s_lf)).length)) (bW () (((-2097152:Int),()),())) (K6 (Wz (WB s_fr s_dc s_lf (4:Nat)+(4:Nat))) (bW () (((0:Int),()),())) s_fr s_dc s_lf (5:Nat) (bW () (((0:Int),()),())) (xP s_fr s_dc s_lf (6:Nat)) (bW () (((0:Int),()),())) (7:Nat) (K6 (xP s_fr s_dc s_lf (8:Nat)) (cq () (((3:Int),()),())) s_fr s_dc s_lf (9:Nat) (cq () (((0:Int),()),())) (xP s_fr s_dc s_lf (10:Nat)) (cq () (((0:Int),()),())) (11:Nat) (H8 (xP s_fr s_dc s_lf (12:Nat)) (cq () (((0:Int),()),())) (xP s_fr s_dc s_lf (13:Nat)) (bW () (((2097152:Int),()),())) (Wz (WB s_fr s_dc s_lf (14:Nat)+(4:Nat))) (bW () (((0:Int),()),())) (xP s_fr s_dc s_lf (15:Nat)) (bW () (((0:Int),()),())) (K6 (xP s_fr s_dc s_lf (16:Nat)) (bW () (((0:Int),()),())) s_fr s_dc s_lf (17:Nat) (cq () (((32768:Int),()),())) (Wz (WB s_fr s_dc s_lf (18:Nat)+(3:Nat))) (cq () (((3:Int),()),())) (19:Nat) (K6 (xP s_fr s_dc s_lf (20:Nat)) (cq () (((0:Int),()),())) s_fr s_dc s_lf (21:Nat) (cq () (((0:Int),()),())) (xP s_fr s_dc s_lf (22:Nat)) (cq () (((0:Int),()),())) (23:Nat) (K5 (xP s_fr s_dc s_lf (24:Nat)) (RO (sS (Q5b s_fr) (Q5b (ZE s_dc)) (Q5b s_lf) (25:Nat))) lG (jA () (stV s_fr s_dc s_lf,()) () ((iN (sS (Q5b s_fr) (Q5b (ZE s_dc)) (Q5b s_lf) (25:Nat)),()),mB)))))))))) (Q10 CW (jA () (stV s_fr s_dc s_lf,()) () Q8r))) (by kernel_rfl) ?_⟩
 delta Q7 Q6 oO lG Q3 Qk Q4 Q0 mB QK Qg Q5b Q10 K5 ZE rB Wz WB xP CW H8 Qm y9 K6 Q6N Q8r RO sZ;obtain ⟨h1,h2,h3,h4,h5,h6⟩:=(show 0≤s_fr∧s_fr≤600∧0≤s_dc∧s_dc≤4294967295∧1≤s_lf∧s_lf≤600 from hp);have w1:IntKind.u64.wrap s_fr=s_fr:=dn (by simp only [aL,aT,aU];omega)
 have w2:IntKind.i64.wrap s_dc=s_dc:=dn (by simp only [aL,aT,aU];omega)
 have w3:IntKind.u64.wrap s_dc=s_dc:=dn (by simp only [aL,aT,aU];omega)
 have w4:IntKind.u64.wrap s_lf=s_lf:=dn (by simp only [aL,aT,aU];omega)
 simp only [w1,w2,w3,w4];have hN: ∀n:Int,0≤n→n≤4294967295→cq () ((n,()),()):=fun n a b=>⟨a,by show n≤18446744073709551615;omega⟩
 have hS:=Oq s_fr s_dc s_lf;have hnum:=ee;have hg0:bW () ((0,()),()):= .inl rfl;have hg1:bW () ((2097152,()),()):= .inr (.inl rfl);have hg2:bW () ((-2097152,()),()):= .inr (.inr rfl);have hO:mh () ((sS s_fr s_dc s_lf 25,()),()):=by unfold mh;dsimp only;exact Nat.le_trans (hS 25) (by decide)
 have hpost:jA () (stV s_fr s_dc s_lf,()) () ((iN (sS s_fr s_dc s_lf 25),()),((),()),()):=rfl;have hle: ∀k,(sS s_fr s_dc s_lf k).length+4≤9223372036854775807:=fun k=>by have:=hS k;omega
 have hleM: ∀k,(sS s_fr s_dc s_lf k).length+3≤9223372036854775807:=fun k=>by have:=hS k;omega
 have hle1: ∀k,(sS s_fr s_dc s_lf k).length+1≤9223372036854775807:=fun k=>by have:=hS k;omega
 have hle2: ∀k n,(sS s_fr s_dc s_lf k).length+(bY n).length≤9223372036854775807:=fun k n=>by have:=hS k;have:=hnum n;omega
 have hle3: ∀n,0+(bY n).length≤9223372036854775807:=fun n=>by have:=hnum n;omega
 simp only [cl]
 (repeat' (first|with_reducible exact hg0|with_reducible exact hg1|with_reducible exact hg2|with_reducible exact hle _|with_reducible exact hle1 _|with_reducible exact hleM _|with_reducible exact hle2 _ _|with_reducible exact hle3 _|with_reducible exact hO|with_reducible exact hpost|with_reducible exact hN _ (by omega) (by omega)|(with_reducible refine And.intro ?_ ?_)|with_reducible intro _))
 all_goals first|(exfalso;omega)|omega|trivial
noncomputable def MR:=fF.add 214 Lx
end Go.Proofs.YtfdmjoddhjmokaaGreatDoor
namespace Go.Proofs.YtfdmjoddhjmokaaGreatDoor
open Go.RowKit Rex
set_option linter.unusedVariables false
def iX(l:List UInt8):Nat:=(l.map UInt8.toNat).sum
theorem xx(a b:List UInt8):iX (a++b)=iX a+iX b:=by unfold iX;rw [List.map_append,List.sum_append]
theorem vN(l:List UInt8): ∀i,i≤l.length→(oz l i).1=1+iX (l.take i)
 |0,_=>rfl
 |i+1,h=>by
  have ih:=vN l i (by omega)
  rw [List.take_add_one,xx,List.getElem?_eq_getElem (by omega)]
  show (oz l i).1+(l.getD i 0).toNat=_;rw [ih,List.getD_eq_getElem?_getD,List.getElem?_eq_getElem (by omega)]
  show 1+iX (l.take i)+l[i].toNat=1+(iX (l.take i)+(l[i].toNat+0));omega
theorem PK(xs:List Int): ∀a:List UInt8,iX (xs.foldl (fun a x=>a.append (bY x)) a)=iX a+(xs.map fun x=>iX (bY x)).sum:=by
 induction xs with
 |nil=>intro a;simp
 |cons x xs ih=>
  intro a;rw [List.foldl_cons,ih,show a.append (bY x)=a++bY x from rfl,xx,List.map_cons,List.sum_cons];omega
theorem Ua {n:Nat}:iX (kK 9 n)=n %128+(if n<128 then 0 else 128+iX (kK 8 (n / 128))):=by
 by_cases h:n<128
 ·rw [nu h,if_pos h];show (UInt8.ofNat n).toNat+0=_;rw [UInt8.toNat_ofNat'];omega
 ·rw [uR h,if_neg h];show (UInt8.ofNat (n %128+128)).toNat+iX (kK 8 (n / 128))=_;rw [UInt8.toNat_ofNat'];omega
theorem a3O {d d':Nat}(hq:d / 128=d' / 128)(hr:d %128≠d' %128):iN (n8 16 d 584)≠iN (n8 16 d' 584):=by
 intro h;have key: ∀e:Nat,iX (n8 16 e 584)=iX (bY 16)+iX (kK 9 e)+((sXs 16 0 584).drop 2 |>.map fun x=>iX (bY x)).sum:=fun e=>by
  unfold n8 sS;rw [show (sXs 16 e 584).take 25=sXs 16 e 584 from rfl,PK];show 0+(iX (bY 16)+(iX (kK 9 (Int.toNat (e:Int)))+_))=_;rw [Int.toNat_natCast];show 0+(iX (bY 16)+(iX (kK 9 e)+((sXs 16 0 584).drop 2 |>.map fun x=>iX (bY x)).sum))=_;omega
 have k1:=vN (n8 16 d 584) _ (Nat.le_refl _);have k2:=vN (n8 16 d' 584) _ (Nat.le_refl _);rw [List.take_length,key,Ua] at k1 k2;have hlt:d<128↔d'<128:=by omega
 unfold iN at h;rw [k1,k2] at h;generalize (oz (n8 16 (d:Int) 584) (n8 16 (d:Int) 584).length).2=X at h;generalize (oz (n8 16 (d':Int) 584) (n8 16 (d':Int) 584).length).2=Y at h;rw [hq] at h;generalize iX (kK 8 (d' / 128))=Z at h;generalize iX (bY 16)=A at h;generalize ((sXs 16 0 584).drop 2 |>.map fun x=>iX (bY x)).sum=B at h;by_cases c:d<128
 ·rw [if_pos c,if_pos (hlt.1 c)] at h;omega
 ·rw [if_neg c,if_neg (fun k=>c (hlt.2 k))] at h;omega
end Go.Proofs.YtfdmjoddhjmokaaGreatDoor
