/- What the claim needs of the walks, put together by a program (shake.py). -/
import Derived.Test.YtemiagcencajeaaGreatDoorXvD
set_option maxRecDepth 100000
set_option linter.unusedSimpArgs false
set_option linter.unusedVariables false
set_option linter.unusedSectionVars false
namespace Go.Proofs.YtemiagcencajeaaGreatDoor
section
set_option maxHeartbeats 8000000
open Go Go.Eng Go.RowKit
attribute [local simp] aU.m aU.o aU.n aU.g eZ ej cR cx cW evalOp.eq_1 evalOp.eq_2 evalOp.eq_3 evalOp.eq_4 evalOp.eq_5 evalOp.eq_6 evalOp.eq_7 evalOp.eq_8 evalOp.eq_9 evalOp.eq_10 evalOp.eq_11 evalOp.eq_12 evalOp.eq_13 evalOp.eq_14 evalOp.eq_15 evalOp.eq_16 evalOp.eq_17 evalOp.eq_18 evalOp.eq_19 evalOp.eq_20 evalOp.eq_21 evalOp.eq_22 evalOp.eq_23 evalOp.eq_24 evalOp.eq_25 evalOp.eq_27 evalOp.eq_28 evalOp.eq_29 h7 aT.ev cw au ah.new dM I.cells I.ca I.dK I.dQ ga gd gb gf gh gg hr hs ht fi fj cut partOf bound elems hx hy hz hA hB hC hD hE hF hG hH hI fs hJ hK hL hM hN hO hP hQ hR hS hT hU hV hW hX hY hZ h0 h1 h3 h4 h5 h6 ei ec dE eT gj fA ah.close ah.set fQ h8 h9 h_ hv fB e0 eJ dj eV fM fm eW fN fO fP eQ eR eS eP gk bj fK gl fL gm gn eH gp eI gq gr gu ff hq gv gw gx gy gz gA gB gC gD gE gF gG gH gI gJ gK gL gM gN fl gO gP gQ gR gS gT gU gV gW gX gY gZ g0 g1 g2
attribute [local simp high] hn ho hp g3 g4 g5 g6 g7 g8 g9 g_ g' ha hb hc hd hf hg hh hi hj hk hl
attribute [local simp] aD List.getElem?_cons_zero List.getElem?_cons_succ dp cB e5 Nat.mod_eq_of_lt ij ik il im e_ iq ir iu
section
attribute [local irreducible] ba
attribute [local simp] cY cI cm
def e7 (z:Int):Int:=if z=0 then 0 else if z<0 then -1 else 1
theorem m4 {a:Int} {k:Nat}:aG a<=k↔a.natAbs<an k:=cC
theorem xC (a:Int):aG (-a)=aG a:=by simp[aG]
theorem pC (a b:Int):aG (a+b)<=max (aG a) (aG b)+1:=by
 have U:(a+b).natAbs<=a.natAbs+b.natAbs:=Int.natAbs_add_le a b
 have h2:=kz a.natAbs b.natAbs
 have aB:=ib U
 simp only[aG] at*;omega
theorem MK (a b:Int):aG (a - b)<=max (aG a) (aG b)+1:=by
 have:=pC a (-b)
 rw[xC] at this
 rwa [Int.sub_eq_add_neg]
theorem js (a b:Int):aG (a*b)<=aG a+aG b:=by
 have:=kO a.natAbs b.natAbs
 rwa [<-Int.natAbs_mul] at this
theorem Ah (b:Bool) (n:Nat):aG (cD b n)=(aa n).length:=by rw[aG,Aa]
noncomputable def ML:FuncId->Option (List I->Option I):=cf [(170,kQ)]
theorem W8:∀f T,ML f=some T->aH Tryz.prog G f T:=cg (by simp only[List.forall_mem_cons];exact ⟨qv,fun _ h=>absurd h (by simp)⟩)
theorem W9:ML 170=some kQ:=rfl
attribute [local simp] W9
noncomputable def nC:List I->Option I:=a9 (fun z:Bool × List Nat=>Small z.2/\z.2.length<=1073741824) (fun z=>[.bool z.1,bW z.2 false]) (fun z=>aj (cD z.1 (val z.2)))
theorem W_ (z:Bool × List Nat) (h:Small z.2/\z.2.length<=1073741824) {args:List I} (he:args.map I.loose= [.bool z.1,bW z.2 false]):nC args=some (aj (cD z.1 (val z.2))):=bk (fun z w h=>by simp only[List.cons.injEq,I.int.injEq,I.bool.injEq,I.sl.injEq,bX,bU,bS,b4,b2,bo,bE,bZ,bj,true_and,and_true] at h;simp[h]) z h he
theorem xD:aH Tryz.prog G 84 nC:=by
 refine bf mixed W8 Kk fun z aq=>?_
 obtain⟨b,l⟩:=z
 obtain⟨aw,ay⟩:=aq
 simp only at aw ay|-
 have t:=py (e:=false) aw ay
 have bM:=xA b (val l)
 have cn:=Aa b (val l)
 unfold i84
 by_cases al:val l=0
 · have ai:aa (val l)= []:=iW.2 al
   have a3:decide (val l≠0)=false:=decide_eq_false (fun h=>h al)
   rw[a3] at bM
   cases b
   · skip
     refine aJ [0,1,4,5] fun F K=>?_
     obtain⟨f0,f1,f4,f5⟩:=K
     have H:=bs t ai
     have K:=bN f0 f1 f4 f5;clear f0 f1 f4 f5
     repeat' (first|refine dU ?_|refine dV ?_|((first|refine eL ?_|refine eM ?_|refine eN ?_|exact dX|refine dW ?_);try(refine ew [0,1,4,5] fun F k=>?_;replace K:=k;clear k))|(refine dY (fun J=>?_) (fun J=>?_)<;>first|(exfalso;simp(disch:=omega) [H] at J;done)|(exfalso;simp at J;omega)|simp at J)|((first|refine b3 ?_|refine c_ ?_);simp(disch:=omega) [H,K,bM,cn])|exact trivial)
     all_goals obtain⟨f0,f1,f4,f5⟩:=K
   · skip
     refine aJ [0,1,4,5] fun F K=>?_
     obtain⟨f0,f1,f4,f5⟩:=K
     have H:=bs t ai
     have K:=bN f0 f1 f4 f5;clear f0 f1 f4 f5
     repeat' (first|refine dU ?_|refine dV ?_|((first|refine eL ?_|refine eM ?_|refine eN ?_|exact dX|refine dW ?_);try(refine ew [0,1,4,5] fun F k=>?_;replace K:=k;clear k))|(refine dY (fun J=>?_) (fun J=>?_)<;>first|(exfalso;simp(disch:=omega) [H] at J;done)|(exfalso;simp at J;omega)|simp at J)|((first|refine b3 ?_|refine c_ ?_);simp(disch:=omega) [H,K,bM,cn])|exact trivial)
     all_goals obtain⟨f0,f1,f4,f5⟩:=K
 · have ai:0<(aa (val l)).length:=lG.2 al
   have ko:¬aa (val l)= []:=fun h=>al (iW.1 h)
   have a3:decide (val l≠0)=true:=decide_eq_true al
   rw[a3] at bM
   cases b
   · skip
     refine aJ [0,1,4,5] fun F K=>?_
     obtain⟨f0,f1,f4,f5⟩:=K
     have H:=bs t ai
     have K:=bN f0 f1 f4 f5;clear f0 f1 f4 f5
     repeat' (first|refine dU ?_|refine dV ?_|((first|refine eL ?_|refine eM ?_|refine eN ?_|exact dX|refine dW ?_);try(refine ew [0,1,4,5] fun F k=>?_;replace K:=k;clear k))|(refine dY (fun J=>?_) (fun J=>?_)<;>first|(exfalso;simp(disch:=omega) [H] at J;done)|(exfalso;simp at J;omega)|simp at J)|((first|refine b3 ?_|refine c_ ?_);simp(disch:=omega) [H,K,bM,cn])|exact trivial)
     all_goals obtain⟨f0,f1,f4,f5⟩:=K
   · skip
     refine aJ [0,1,4,5] fun F K=>?_
     obtain⟨f0,f1,f4,f5⟩:=K
     have H:=bA t ai ko
     have K:=bN f0 f1 f4 f5;clear f0 f1 f4 f5
     repeat' (first|refine dU ?_|refine dV ?_|((first|refine eL ?_|refine eM ?_|refine eN ?_|exact dX|refine dW ?_);try(refine ew [0,1,4,5] fun F k=>?_;replace K:=k;clear k))|(refine dY (fun J=>?_) (fun J=>?_)<;>first|(exfalso;simp(disch:=omega) [H] at J;done)|(exfalso;simp at J;omega)|simp at J)|((first|refine b3 ?_|refine c_ ?_);simp(disch:=omega) [H,K,bM,cn])|exact trivial)
     all_goals obtain⟨f0,f1,f4,f5⟩:=K
theorem m5 {b:Bool} {n:Nat} (h:(aa n).length<=1073741824):nC [.bool b,af n]=some (aj (cD b n)):=by
 rw[W_ (b,aa n) ⟨dx n,h⟩ (by simp),cm]
noncomputable def th:FuncId->Option (List I->Option I):=cf [(84,nC),(180,Af),(171,n2),(174,j2),(185,pB),(209,Ag)]
theorem ve:∀f T,th f=some T->aH Tryz.prog G f T:=cg (by simp only[List.forall_mem_cons];exact ⟨xD,W5,xr,va,z_,W7,fun _ h=>absurd h (by simp)⟩)
theorem W':th 84=some nC:=rfl
theorem Xa:th 180=some Af:=rfl
theorem Xb:th 171=some n2:=rfl
theorem Xc:th 174=some j2:=rfl
theorem Xd:th 185=some pB:=rfl
theorem Xe:th 209=some Ag:=rfl
attribute [local simp] W' Xa Xb Xc Xd Xe
noncomputable def n3:List I->Option I:=a9 (fun z:Int=> -9223372036854775808<=z/\z<9223372036854775808) (fun z=>[.int .i64 z]) (fun z=>aj z)
theorem MM (z:Int) (h: -9223372036854775808<=z/\z<9223372036854775808) {args:List I} (he:args.map I.loose= [.int .i64 z]):n3 args=some (aj z):=bk (fun z w h=>by simp only[List.cons.injEq,I.int.injEq,I.bool.injEq,I.sl.injEq,bX,bU,bS,b4,b2,bo,bE,bZ,bj,true_and,and_true] at h;simp[h]) z h he
theorem xE:aH Tryz.prog G 110 n3:=by
 refine bf mixed ve Kz fun z aq=>?_
 unfold i110
 have ay:∀n,n<18446744073709551616->(aa n).length<=2:=fun n h=>cC.2 (by simp only[eo,fE];omega)
 by_cases aD:z<0
 · obtain⟨n,ai⟩:∃n:Nat,z= -(n:Int):=⟨z.natAbs,by omega⟩
   have t1:=MJ n (by omega) (args:=[fu n]) (by simp)
   have t2:=m5 (b:=true) (n:=n) (by have:=ay n (by omega);omega)
   rw[show cD true n=z by simp[cD,ai]] at t2
   have ao:IntKind.i64.wrap (z+Z 1)=z+1:=wrap_i64 (by simp only[Z];omega) (by simp only[Z];omega)
   have av:IntKind.i64.wrap (-(z+1))=Z (n - 1):=by rw[wrap_i64 (by omega) (by omega)];simp only[Z];omega
   have aW:n - 1+1=n:=by omega
   have bR:n<18446744073709551616:=by omega
   have fe:n - 1<18446744073709551616:=by omega
   have lo:(z<Z 0)=True:=eq_true aD
   refine aJ [0,2,4] fun F K=>?_
   obtain⟨f0,f2,f4⟩:=K
   have H:=er t1 t2 ao av aW bR fe lo
   have K:=bA f0 f2 f4;clear f0 f2 f4
   exact a4 [0,2,4]
 · obtain⟨n,ai⟩:∃n:Nat,z=n:=⟨z.natAbs,by omega⟩
   have t1:=MJ n (by omega) (args:=[fu n]) (by simp)
   have t2:=m5 (b:=false) (n:=n) (by have:=ay n (by omega);omega)
   rw[show cD false n=z by simp[cD,ai]] at t2
   have bR:IntKind.u64.wrap z=Z n:=by
    have:=fl n
    rw[ai];simp only[Z] at this|-;rw[this,Nat.mod_eq_of_lt (by omega)]
   have lo:(z<Z 0)=False:=eq_false aD
   refine aJ [0,2,4] fun F K=>?_
   obtain⟨f0,f2,f4⟩:=K
   have H:=bN t1 t2 bR lo
   have K:=bA f0 f2 f4;clear f0 f2 f4
   exact a4 [0,2,4]
def mB (b:Bool) (l:List Nat):Bool:=mx l&& !(b&&decide (l= []))
noncomputable def Ai:List I->Option I:=a9 (fun z:Bool × List Nat=>z.2.length<=1000000000) (fun z=>[.agg [.bool z.1,bW z.2 false]]) (fun z=> .bool (mB z.1 z.2))
theorem Xf (z:Bool × List Nat) (h:z.2.length<=1000000000) {args:List I} (he:args.map I.loose= [.agg [.bool z.1,bW z.2 false]]):Ai args=some (.bool (mB z.1 z.2)):=bk (fun z w h=>by simp only[I.agg.injEq,List.cons.injEq,I.int.injEq,I.bool.injEq,I.sl.injEq,bX,bU,bS,b4,b2,bo,bE,bZ,bj,true_and,and_true] at h;simp[h]) z h he
theorem Xg:aH Tryz.prog G 147 Ai:=by
 refine bf mixed ve KN fun z aq=>?_
 obtain⟨b,l⟩:=z
 simp only at aq|-
 have t:=W6 l aq (args:=[bW l false]) (by simp)
 have ay:=List.length_eq_zero_iff (l:=l)
 unfold i147
 simp only[mB]
 by_cases h:l= []
 · subst h
   rw[show bW [] false=I.sl [] false from rfl] at t
   cases b<;>cases aR:mx []
   all_goals rw[aR] at t
   · skip
     refine aJ [0,1,2] fun F K=>?_
     obtain⟨f0,f1,f2⟩:=K
     have H:=t
     have K:=bA f0 f1 f2;clear f0 f1 f2
     exact a4 [0,1,2]
   · skip
     refine aJ [0,1,2] fun F K=>?_
     obtain⟨f0,f1,f2⟩:=K
     have H:=t
     have K:=bA f0 f1 f2;clear f0 f1 f2
     exact a4 [0,1,2]
   · skip
     refine aJ [0,1,2] fun F K=>?_
     obtain⟨f0,f1,f2⟩:=K
     have H:=t
     have K:=bA f0 f1 f2;clear f0 f1 f2
     exact a4 [0,1,2]
   · skip
     refine aJ [0,1,2] fun F K=>?_
     obtain⟨f0,f1,f2⟩:=K
     have H:=t
     have K:=bA f0 f1 f2;clear f0 f1 f2
     exact a4 [0,1,2]
 · have ai:¬l.length=0:=fun h'=>h (ay.1 h')
   cases b<;>cases aR:mx l
   all_goals rw[aR] at t
   · skip
     refine aJ [0,1,2] fun F K=>?_
     obtain⟨f0,f1,f2⟩:=K
     have H:=bA t h ai
     have K:=bA f0 f1 f2;clear f0 f1 f2
     exact a4 [0,1,2]
   · skip
     refine aJ [0,1,2] fun F K=>?_
     obtain⟨f0,f1,f2⟩:=K
     have H:=bA t h ai
     have K:=bA f0 f1 f2;clear f0 f1 f2
     exact a4 [0,1,2]
   · skip
     refine aJ [0,1,2] fun F K=>?_
     obtain⟨f0,f1,f2⟩:=K
     have H:=bA t h ai
     have K:=bA f0 f1 f2;clear f0 f1 f2
     exact a4 [0,1,2]
   · skip
     refine aJ [0,1,2] fun F K=>?_
     obtain⟨f0,f1,f2⟩:=K
     have H:=bA t h ai
     have K:=bA f0 f1 f2;clear f0 f1 f2
     exact a4 [0,1,2]
noncomputable def lY:List I->Option I:=a9 (fun z:Int=>True) (fun z=>[aj z]) (fun z=> .int .i64 (e7 z))
theorem vf (z:Int) (h:True) {args:List I} (he:args.map I.loose= [aj z]):lY args=some (.int .i64 (e7 z)):=bk (fun z w h=>by simp only[List.cons.injEq,I.int.injEq,I.bool.injEq,I.sl.injEq,bX,bU,bS,b4,b2,bo,bE,bZ,bj,true_and,and_true] at h;simp[h]) z h he
theorem ti:aH Tryz.prog G 87 lY:=by
 refine bf mixed ve Km fun z _=>?_
 unfold i87
 by_cases aD:z=0
 · subst aD
   have dC:aa 0= []:=eE
   have dv:a7 0=false:=rfl
   have e:e7 0=Z 0:=rfl
   refine aJ [0,1,2,3,8] fun F K=>?_
   obtain⟨f0,f1,f2,f3,f8⟩:=K
   have H:=bs dC dv
   have K:=bx f0 f1 f2 f3 f8;clear f0 f1 f2 f3 f8
   repeat' (first|refine dU ?_|refine dV ?_|((first|refine eL ?_|refine eM ?_|refine eN ?_|exact dX|refine dW ?_);try(refine ew [0,1,2,3,8] fun F k=>?_;replace K:=k;clear k))|(refine dY (fun J=>?_) (fun J=>?_)<;>first|(exfalso;simp(disch:=omega) [H] at J;done)|(exfalso;simp at J;omega)|simp at J)|((first|refine b3 ?_|refine c_ ?_);simp(disch:=omega) [H,K,e])|exact trivial)
   all_goals obtain⟨f0,f1,f2,f3,f8⟩:=K
 · have ai:¬aa z.natAbs= []:=fun h=>aD (by have:=iW.1 h;omega)
   have ko:¬(aa z.natAbs).length=0:=fun h=>ai (List.length_eq_zero_iff.1 h)
   by_cases U:z<0
   · have e:e7 z= -1:=by simp[e7,aD,U]
     have aq:a7 z=true:=by simp[a7,U]
     refine aJ [0,1,2,3,8] fun F K=>?_
     obtain⟨f0,f1,f2,f3,f8⟩:=K
     have H:=bA ai ko aq
     have K:=bx f0 f1 f2 f3 f8;clear f0 f1 f2 f3 f8
     repeat' (first|refine dU ?_|refine dV ?_|((first|refine eL ?_|refine eM ?_|refine eN ?_|exact dX|refine dW ?_);try(refine ew [0,1,2,3,8] fun F k=>?_;replace K:=k;clear k))|(refine dY (fun J=>?_) (fun J=>?_)<;>first|(exfalso;simp(disch:=omega) [H] at J;done)|(exfalso;simp at J;omega)|simp at J)|((first|refine b3 ?_|refine c_ ?_);simp(disch:=omega) [H,K,e])|exact trivial)
     all_goals obtain⟨f0,f1,f2,f3,f8⟩:=K
   · have e:e7 z=1:=by simp[e7,aD,U]
     have aq:a7 z=false:=by simp[a7,U]
     refine aJ [0,1,2,3,8] fun F K=>?_
     obtain⟨f0,f1,f2,f3,f8⟩:=K
     have H:=bA ai ko aq
     have K:=bx f0 f1 f2 f3 f8;clear f0 f1 f2 f3 f8
     repeat' (first|refine dU ?_|refine dV ?_|((first|refine eL ?_|refine eM ?_|refine eN ?_|exact dX|refine dW ?_);try(refine ew [0,1,2,3,8] fun F k=>?_;replace K:=k;clear k))|(refine dY (fun J=>?_) (fun J=>?_)<;>first|(exfalso;simp(disch:=omega) [H] at J;done)|(exfalso;simp at J;omega)|simp at J)|((first|refine b3 ?_|refine c_ ?_);simp(disch:=omega) [H,K,e])|exact trivial)
     all_goals obtain⟨f0,f1,f2,f3,f8⟩:=K
noncomputable def n4:List I->Option I:=a9 (fun z:Int=>aG z<=100000000) (fun z=>[aj z]) (fun z=>aj (-z))
theorem EX (z:Int) (h:aG z<=100000000) {args:List I} (he:args.map I.loose= [aj z]):n4 args=some (aj (-z)):=bk (fun z w h=>by simp only[List.cons.injEq,I.int.injEq,I.bool.injEq,I.sl.injEq,bX,bU,bS,b4,b2,bo,bE,bZ,bj,true_and,and_true] at h;simp[h]) z h he
theorem xF:aH Tryz.prog G 90 n4:=by
 refine bf mixed ve Kn fun z aq=>?_
 simp only[aG] at aq
 have t:=m5 (b:=!a7 z) (n:=z.natAbs) (by omega)
 rw[show cD (!a7 z) z.natAbs= -z by simp only[cD,a7,Bool.not_eq_true',decide_eq_false_iff_not];split<;>omega] at t
 unfold i90
 generalize a6:a7 z=s at*
 generalize iL:z.natAbs=n at*
 generalize -z=w at*
 refine aJ [0,1,2] fun F K=>?_
 obtain⟨f0,f1,f2⟩:=K
 have H:=bA a6 iL t
 have K:=bA f0 f1 f2;clear f0 f1 f2
 exact a4 [0,1,2]
def jt (a b:Int):Int:=if a<b then -1 else if b<a then 1 else 0
noncomputable def xG:List I->Option I:=a9 (fun z:Int × Int=>aG z.1<=100000000/\aG z.2<=100000000) (fun z=>[aj z.1,aj z.2]) (fun z=> .int .i64 (jt z.1 z.2))
theorem MN:aH Tryz.prog G 85 xG:=by
 refine bf mixed ve UH fun z aq=>?_
 obtain⟨a,b⟩:=z
 obtain⟨aA,ad⟩:=aq
 simp only[aG] at aA ad|-
 have t1:=s' (a:=a.natAbs) (b:=b.natAbs) (e:=false) (e':=false) (by omega) (by omega)
 have t2:=s' (a:=b.natAbs) (b:=a.natAbs) (e:=false) (e':=false) (by omega) (by omega)
 unfold i85
 by_cases U:a<0<;>by_cases h2:b<0
 all_goals have dv:a7 a=decide (a<0):=rfl
 all_goals have f_:a7 b=decide (b<0):=rfl
 all_goals simp only[U,h2,decide_true,decide_false] at dv f_
 · have e:ds b.natAbs a.natAbs=jt a b:=by simp only[ds,jt];split<;>split<;>first|rfl|omega|(split<;>first|rfl|omega)
   refine aJ [0,1,2,3,4,5,17,20] fun F K=>?_
   obtain⟨f0,f1,f2,f3,f4,f5,f17,f20⟩:=K
   have H:=bx t1 t2 dv f_ e
   have K:=er f0 f1 f2 f3 f4 f5 f17 f20;clear f0 f1 f2 f3 f4 f5 f17 f20
   exact a4 [0,1,2,3,4,5,17,20]
 · have e:jt a b= -1:=by simp only[jt];rw[if_pos (by omega)]
   refine aJ [0,1,2,3,4,5,17,20] fun F K=>?_
   obtain⟨f0,f1,f2,f3,f4,f5,f17,f20⟩:=K
   have H:=bA dv f_ e
   have K:=er f0 f1 f2 f3 f4 f5 f17 f20;clear f0 f1 f2 f3 f4 f5 f17 f20
   exact a4 [0,1,2,3,4,5,17,20]
 · have e:jt a b=1:=by simp only[jt];rw[if_neg (by omega),if_pos (by omega)]
   refine aJ [0,1,2,3,4,5,17,20] fun F K=>?_
   obtain⟨f0,f1,f2,f3,f4,f5,f17,f20⟩:=K
   have H:=bA dv f_ e
   have K:=er f0 f1 f2 f3 f4 f5 f17 f20;clear f0 f1 f2 f3 f4 f5 f17 f20
   exact a4 [0,1,2,3,4,5,17,20]
 · have e:ds a.natAbs b.natAbs=jt a b:=by simp only[ds,jt];split<;>split<;>first|rfl|omega|(split<;>first|rfl|omega)
   refine aJ [0,1,2,3,4,5,17,20] fun F K=>?_
   obtain⟨f0,f1,f2,f3,f4,f5,f17,f20⟩:=K
   have H:=bx t1 t2 dv f_ e
   have K:=er f0 f1 f2 f3 f4 f5 f17 f20;clear f0 f1 f2 f3 f4 f5 f17 f20
   exact a4 [0,1,2,3,4,5,17,20]
noncomputable def k9:List I->Option I:=a9 (fun z:Int × Int=>aG z.1<=10000000/\aG z.2<=10000000) (fun z=>[aj z.1,aj z.2]) (fun z=>aj (z.1+z.2))
theorem vg (z:Int × Int) (h:aG z.1<=10000000/\aG z.2<=10000000) {args:List I} (he:args.map I.loose= [aj z.1,aj z.2]):k9 args=some (aj (z.1+z.2)):=bk (fun z w h=>by simp only[List.cons.injEq,I.int.injEq,I.bool.injEq,I.sl.injEq,bX,bU,bS,b4,b2,bo,bE,bZ,bj,true_and,and_true] at h;simp[h]) z h he
theorem rE:aH Tryz.prog G 119 k9:=by
 refine bf mixed ve KE fun z aq=>?_
 obtain⟨a,b⟩:=z
 obtain⟨aA,ad⟩:=aq
 simp only[aG] at aA ad|-
 have Xh:((-1:Int)<Z 0)=True:=eq_true (by decide)
 unfold i119
 by_cases aw:a7 a=a7 b
 · have t1:=nA (a:=a.natAbs) (b:=b.natAbs) (e:=false) (e':=false) (by omega) (by omega)
   have ay:=kz a.natAbs b.natAbs
   have t2:=m5 (b:=a7 a) (n:=a.natAbs+b.natAbs) (by omega)
   rw[MB aw] at t2
   generalize a6:a7 a=uH at*
   generalize bC:a7 b=uI at*
   subst aw
   refine aJ [0,1,2,3,4,5,11,25] fun F K=>?_
   obtain⟨f0,f1,f2,f3,f4,f5,f11,f25⟩:=K
   have H:=bN a6 bC t1 t2
   have K:=er f0 f1 f2 f3 f4 f5 f11 f25;clear f0 f1 f2 f3 f4 f5 f11 f25
   exact a4 [0,1,2,3,4,5,11,25]
 · have ll:(a7 a == a7 b)=false:=by simpa using aw
   have t0:=s' (a:=a.natAbs) (b:=b.natAbs) (e:=false) (e':=false) (by omega) (by omega)
   by_cases bG:a.natAbs<b.natAbs
   · have J:ds a.natAbs b.natAbs= -1:=by simp[ds,bG]
     rw[J] at t0
     have t2:=xx (a:=b.natAbs) (b:=a.natAbs) (e:=false) (e':=false) (by omega) (by omega)
     rw[if_neg (by omega)] at t2
     have t3:=m5 (b:=a7 b) (n:=b.natAbs - a.natAbs) (Nat.le_trans (ib (Nat.sub_le _ _)) (by omega))
     rw[MD aw bG] at t3
     generalize a6:a7 a=uH at*
     generalize bC:a7 b=uI at*
     refine aJ [0,1,2,3,4,5,11,25] fun F K=>?_
     obtain⟨f0,f1,f2,f3,f4,f5,f11,f25⟩:=K
     have H:=de a6 bC ll Xh t0 t2 t3
     have K:=er f0 f1 f2 f3 f4 f5 f11 f25;clear f0 f1 f2 f3 f4 f5 f11 f25
     exact a4 [0,1,2,3,4,5,11,25]
   · have m2:(ds a.natAbs b.natAbs<Z 0)=False:=eq_false (by simp only[ds];rw[if_neg bG];split<;>decide)
     have t2:=xx (a:=a.natAbs) (b:=b.natAbs) (e:=false) (e':=false) (by omega) (by omega)
     rw[if_neg bG] at t2
     have t3:=m5 (b:=a7 a) (n:=a.natAbs - b.natAbs) (Nat.le_trans (ib (Nat.sub_le _ _)) (by omega))
     rw[MC aw bG] at t3
     generalize ds a.natAbs b.natAbs=xy at*
     generalize a6:a7 a=uH at*
     generalize bC:a7 b=uI at*
     refine aJ [0,1,2,3,4,5,11,25] fun F K=>?_
     obtain⟨f0,f1,f2,f3,f4,f5,f11,f25⟩:=K
     have H:=de a6 bC ll m2 t0 t2 t3
     have K:=er f0 f1 f2 f3 f4 f5 f11 f25;clear f0 f1 f2 f3 f4 f5 f11 f25
     exact a4 [0,1,2,3,4,5,11,25]
noncomputable def EY:FuncId->Option (List I->Option I):=cf [(119,k9),(90,n4)]
theorem Xi:∀f T,EY f=some T->aH Tryz.prog G f T:=cg (by simp only[List.forall_mem_cons];exact ⟨rE,xF,fun _ h=>absurd h (by simp)⟩)
theorem Xj:EY 119=some k9:=rfl
theorem Xk:EY 90=some n4:=rfl
attribute [local simp] Xj Xk
noncomputable def qy:List I->Option I:=a9 (fun z:Int × Int=>aG z.1<=10000000/\aG z.2<=10000000) (fun z=>[aj z.1,aj z.2]) (fun z=>aj (z.1 - z.2))
theorem MO (z:Int × Int) (h:aG z.1<=10000000/\aG z.2<=10000000) {args:List I} (he:args.map I.loose= [aj z.1,aj z.2]):qy args=some (aj (z.1 - z.2)):=bk (fun z w h=>by simp only[List.cons.injEq,I.int.injEq,I.bool.injEq,I.sl.injEq,bX,bU,bS,b4,b2,bo,bE,bZ,bj,true_and,and_true] at h;simp[h]) z h he
theorem EZ:aH Tryz.prog G 143 qy:=by
 refine bf mixed Xi KL fun z aq=>?_
 obtain⟨a,b⟩:=z
 obtain⟨aA,ad⟩:=aq
 simp only at aA ad|-
 have t1:=EX b (by omega) (args:=[aj b]) (by simp)
 have t2:=vg (a,-b) ⟨aA,by rw[xC];exact ad⟩ (args:=[aj a,aj (-b)]) (by simp)
 rw[<-Int.sub_eq_add_neg] at t2
 unfold i143
 generalize -b=c at*
 generalize a - b=d at*
 refine aJ [0,1,2,3,4] fun F K=>?_
 obtain⟨f0,f1,f2,f3,f4⟩:=K
 have H:=bs t1 t2
 have K:=bx f0 f1 f2 f3 f4;clear f0 f1 f2 f3 f4
 exact a4 [0,1,2,3,4]
end
section
attribute [local irreducible] ba
attribute [local simp] cY cI cm zT zU zV
theorem MP {x y:Nat} (ae:x<4294967296) (aN:y<4294967296):x*y<=18446744065119617025:=Nat.mul_le_mul (show x<=4294967295 by omega) (show y<=4294967295 by omega)
theorem MQ {V fU P cL B E0 x r q rF ih c R u:Nat} (U:fU+P*cL*E0=V+P*cL*r) (ae:x=rF*ih+E0+c) (a3:x=B*q+r) (h:V+P*cL*c=R+P*(rF*u)):
 fU+P*cL*B*q=R+P*(rF*(u+cL*ih)):=by
 have ao:P*cL*x=P*cL*(rF*ih)+P*cL*E0+P*cL*c:=by rw[ae,Nat.mul_add,Nat.mul_add]
 have av:P*cL*x=P*cL*B*q+P*cL*r:=by rw[a3,Nat.mul_add,Nat.mul_assoc (P*cL)]
 have aW:P*(rF*(u+cL*ih))=P*(rF*u)+P*cL*(rF*ih):=by
  rw[Nat.mul_add,Nat.mul_add]
  congr 1
  rw[Nat.mul_assoc P,Nat.mul_left_comm rF]
 omega
noncomputable def Aj:List I->Option I:=a9 (fun z:Nat × Nat=>(aa z.1).length<=100000000/\(aa z.2).length<=100000000) (fun z=>[af z.1,af z.2]) (fun z=>af (z.1*z.2))
theorem Xl {a b:Nat} {e e':Bool} (aA:(aa a).length<=100000000) (ad:(aa b).length<=100000000):
 Aj [.sl ((aa a).map fun n=> .int .u32 (Z n)) e,.sl ((aa b).map fun n=> .int .u32 (Z n)) e']=some (af (a*b)):=
 bk (fun z w h=>by simp[bo,bE] at h;simp[h]) (a,b) ⟨aA,ad⟩ (by simp)
structure Ak (a b:Nat) (i:Nat) (o:List Nat) (s:aL) (q:Nat):Prop where
 len:o.length=(aa a).length+(aa b).length
 m0:Small o
 aq:∀j,i+(aa b).length<=j->aE o j=0
 f0:s.F 0=af a
 f1:s.F 1=af b
 f5:s.F 5= .ref q 0 ((aa a).length+(aa b).length) ((aa a).length+(aa b).length)
 f6:s.F 6=aK i
 cells:s.h.cells q=some (o.map fun n=> .int .u32 (Z n))
 cc:s.h.shut q=false
 d_:q<s.h.next
theorem Xm:aH Tryz.prog G 242 Aj:=by
 refine bf mixed Eu U9 fun z aq=>?_
 obtain⟨a,b⟩:=z
 obtain⟨br,bn⟩:=aq
 simp only at br bn|-
 have aA:=dx a
 have ad:=dx b
 obtain⟨A,a6⟩:∃A,A=(aa a).length:=⟨_,rfl⟩
 obtain⟨B,bC⟩:∃B,B=(aa b).length:=⟨_,rfl⟩
 have E1:a<an A:=cC.1 (by omega)
 have E2:b<an B:=cC.1 (by omega)
 unfold i242
 refine bd (bl bD ?_)
 simp[aD]
 refine bd (bl bD ?_)
 simp[<-a6,<-bC,dp (show A+B<9223372036854775808 by omega),show Z (A+B)*4<=140737488355328 by simp only[Z];omega]
 refine bd (bd (bl bD ?_))
 simp
 refine lD (id:=0) (fun m s=>∃i o q,m=A - i/\i<=A/\val o=a%an i*b/\Ak a b i o s q) (fun s=>∃o q,val o=a*b/\Ak a b A o s q) (fun _=>False) A ?_ ?_ ?_ (fun _ h=>h.elim)
 · refine⟨0,List.replicate (A+B) 0,1+5,by omega,by omega,by simp[s3,fE,Nat.mod_one],⟨by simp[<-a6,<-bC],qt _,fun j _=>xn _ _,by simp,by simp,by simp[<-a6,<-bC],by simp,by simp,by simp,by simp⟩⟩
 · rintro m s ⟨i,o,q,rfl,ab,al,ak⟩
   refine bd (bd (bl bD ?_))
   simp[ak.f0,ak.f6,<-a6]
   refine gi _ rfl (fun J=>?_) (fun J=>?_)
   · have lA:i<A:=by simpa using J
     have ae:=aA.aE i
     have nD:=(kc (show i<(aa a).length by omega)).symm
     have vh:=iF a i
     refine iU ?_
     simp
     refine bd (jX (bd (bl bD ?_)))
     simp
     refine bd (bd (bl bD ?_))
     simp
     generalize jh:aE (aa a) i=x at*
     refine lD (id:=2) (fun m s=>∃k c o,m=B - k/\k<=B/\c<4294967296/\val o+an i*an k*c=a%an i*b+an i*(x*(b%an k))/\Ak a b i o s q/\s.F 7=fu c/\s.F 8=aK k)
      (fun s=>∃c o,c<4294967296/\val o+an i*an B*c=a%an i*b+an i*(x*b)/\Ak a b i o s q/\s.F 7=fu c) (fun _=>False) B ?_ ?_ ?_ (fun _ h=>h.elim)
     · refine⟨0,0,o,by omega,by omega,by omega,by simp[al,fE,Nat.mod_one],⟨ak.len,ak.m0,ak.aq,by simp[ak.f0],by simp[ak.f1],by simp[ak.f5],by simp[ak.f6],by simp[ak.cells],by simp[ak.cc],by have:=ak.d_;simp;omega⟩,by simp,by simp⟩
     · rintro m s ⟨k,c,o,rfl,ag,J,al,ak,f7,f8⟩
       refine bd (bd (bl bD ?_))
       simp[ak.f1,f8,<-bC]
       refine gi _ rfl (fun jA=>?_) (fun jA=>?_)
       · have lr:k<B:=by simpa using jA
         have aN:=ad.aE k
         have pD:=(kc (show k<(aa b).length by omega)).symm
         have iJ:=iF b k
         have az:=ak.m0.aE (i+k)
         have iG:=ak.len
         have go:=(kc (show i+k<o.length by omega)).symm
         have n1:=ak.d_
         generalize j9:aE (aa b) k=y at*
         generalize qz:aE o (i+k)=z at*
         have mf:=MP ae aN
         have vi:x*y+z+c<18446744073709551616:=by omega
         have vj:x*y+z<18446744073709551616:=by omega
         have mc:i+k<A+B:=by omega
         have f0:=ak.f0
         have f1:=ak.f1
         have f5:=ak.f5
         have f6:=ak.f6
         have dJ:=ak.cells
         have fh:=ak.cc
         have k_:A+B<=o.length:=by omega
         have K:=c9 f0 f1 f5 f6 f7 f8;clear f0 f1 f5 f6 f7 f8
         refine bO [0,1,5,6,7,8,9] fun F k=>?_;clear K
         obtain⟨f0,f1,f5,f6,f7,f8,f9⟩:=k
         have nE:o≠ []:=fun h=>by rw[h] at k_;simp at k_;omega
         have nF:0<o.length:=by omega
         repeat' (first
          | refine bd ?_
          | ((fail_if_success (refine zH ?_));(fail_if_success (refine zI ?_));refine jX ?_)
          | ((first|(refine bl bD ?_;simp(disch:=omega) [dJ,fh,nD,pD,go,jh,j9,qz,vi,vj,mc,k_,sizedB,nE,nF,<-a6,<-bC,f0,f1,f5,f6,f7,f8,f9];(try(refine⟨by first|decide|rfl,?_⟩)))|(refine iU ?_;simp(disch:=omega) [dJ,fh,nD,pD,go,jh,j9,qz,vi,vj,mc,k_,sizedB,nE,nF,<-a6,<-bC,f0,f1,f5,f6,f7,f8,f9]));(try(refine zG [0,1,5,6,7,8,9] ?_;intro F;simp only[sQ];intro jb bp kt mS rG Al E3;simp(disch:=omega) [dJ,fh,nD,pD,go,jh,j9,qz,vi,vj,mc,k_,sizedB,nE,nF,<-a6,<-bC,f0,f1,f5,f6,f7,f8,f9] at jb bp kt mS rG Al E3;clear f0 f1 f5 f6 f7 f8 f9;have f0:=jb;have f1:=bp;have f5:=kt;have f6:=mS;have f7:=rG;have f8:=Al;have f9:=E3;clear jb bp kt mS rG Al E3)))
          | (refine gi _ (by simp(disch:=omega) [dJ,fh,nD,pD,go,jh,j9,qz,vi,vj,mc,k_,sizedB,nE,nF,<-a6,<-bC,f0,f1,f5,f6,f7,f8,f9];rfl) (fun J=>?_) (fun J=>?_)<;>first|(exfalso;simp(disch:=omega) [dJ,fh,nD,pD,go,jh,j9,qz,vi,vj,mc,k_,sizedB,nE,nF,<-a6,<-bC] at J;done)|(exfalso;simp at J;omega)|(simp at J))
          | ((first|refine b3 ?_|refine c_ ?_);simp(disch:=omega) [dJ,fh,nD,pD,go,jh,j9,qz,vi,vj,mc,k_,sizedB,nE,nF,<-a6,<-bC,f0,f1,f5,f6,f7,f8,f9]))
         have xp:=map_set o (i+k) ((x*y+z+c)%4294967296)
         have iH:=nw ((x*y+z+c)%4294967296) (show i+k<o.length by omega)
         rw[qz,iO] at iH
         have vk:=MQ (B:=4294967296) (q:=(x*y+z+c)/4294967296) iH rfl (Nat.div_add_mod _ _).symm (show val o+an i*an k*c=a%an i*b+an i*(x*(b%an k)) from al)
         refine⟨B -(k+1),by omega,k+1,rfl,by omega,(x*y+z+c)/4294967296,by omega,o.set (i+k) ((x*y+z+c)%4294967296),?_,⟨by simp only[List.length_set];exact ak.len,nx ak.m0 (Nat.mod_lt _ (by decide)),fun j aC=>?_,by simp[f0],by simp[f1],by simp[f5,<-a6,<-bC],by simp[f6],by simp only[au,if_true];exact congrArg some xp,by simp[fh],by simp;omega⟩,rfl,rfl⟩
         · rw[mr,eo,<-iJ,<-Nat.mul_assoc]
           exact vk
         · rw[n0 _ _ (by omega),if_neg (by omega)]
           exact ak.aq j aC
       · have E4:k=B:=by simp at jA;omega
         subst E4
         refine c_ ?_
         rw[Nat.mod_eq_of_lt E2] at al
         exact ⟨rfl,c,J,o,al,⟨ak.len,ak.m0,ak.aq,by simp[ak.f0],by simp[ak.f1],by simp[ak.f5],by simp[ak.f6],by simp[ak.cells],by simp[ak.cc],by have:=ak.d_;simp;omega⟩,by simp[f7]⟩
     · rintro s ⟨c,o,J,al,ak,f7⟩
       have f0:=ak.f0
       have f1:=ak.f1
       have f5:=ak.f5
       have f6:=ak.f6
       have dJ:=ak.cells
       have fh:=ak.cc
       have iG:=ak.len
       have n1:=ak.d_
       have k_:A+B<=o.length:=by omega
       have nE:o≠ []:=fun h=>by rw[h] at k_;simp at k_;omega
       have nF:0<o.length:=by omega
       have qA:i+B<A+B:=by omega
       have K:=bx f0 f1 f5 f6 f7;clear f0 f1 f5 f6 f7
       refine bO [0,1,5,6,7] fun F k=>?_;clear K
       obtain⟨f0,f1,f5,f6,f7⟩:=k
       repeat' (first
        | refine bd ?_
        | ((fail_if_success (refine zH ?_));(fail_if_success (refine zI ?_));refine jX ?_)
        | ((first|(refine bl bD ?_;simp(disch:=omega) [dJ,fh,qA,k_,sizedB,nE,nF,<-a6,<-bC,f0,f1,f5,f6,f7];(try(refine⟨by first|decide|rfl,?_⟩)))|(refine iU ?_;simp(disch:=omega) [dJ,fh,qA,k_,sizedB,nE,nF,<-a6,<-bC,f0,f1,f5,f6,f7]));(try(refine zG [0,1,5,6,7] ?_;intro F;simp only[sQ];intro jb bp kt mS rG;simp(disch:=omega) [dJ,fh,qA,k_,sizedB,nE,nF,<-a6,<-bC,f0,f1,f5,f6,f7] at jb bp kt mS rG;clear f0 f1 f5 f6 f7;have f0:=jb;have f1:=bp;have f5:=kt;have f6:=mS;have f7:=rG;clear jb bp kt mS rG)))
        | (refine gi _ (by simp(disch:=omega) [dJ,fh,qA,k_,sizedB,nE,nF,<-a6,<-bC,f0,f1,f5,f6,f7];rfl) (fun J=>?_) (fun J=>?_)<;>first|(exfalso;simp(disch:=omega) [dJ,fh,qA,k_,sizedB,nE,nF,<-a6,<-bC] at J;done)|(exfalso;simp at J;omega)|(simp at J))
        | ((first|refine b3 ?_|refine c_ ?_);simp(disch:=omega) [dJ,fh,qA,k_,sizedB,nE,nF,<-a6,<-bC,f0,f1,f5,f6,f7]))
       have xp:=map_set o (i+B) c
       have iH:=nw c (show i+B<o.length by omega)
       rw[ak.aq (i+B) (by omega),Nat.mul_zero,Nat.add_zero,iO] at iH
       refine⟨A -(i+1),by omega,i+1,rfl,by omega,o.set (i+B) c,?_,q,⟨by simp only[List.length_set];exact ak.len,nx ak.m0 J,fun j aC=>?_,by simp[f0],by simp[f1],by simp[f5,<-a6,<-bC],by simp,by simp only[au,if_true];exact congrArg some xp,by simp[fh],by simp;omega⟩⟩
       · rw[iH,mr,<-vh,Nat.add_mul,al,Nat.mul_assoc]
       · rw[n0 _ _ (by omega),if_neg (by omega)]
         exact ak.aq j (by omega)
   · have jF:i=A:=by simp at J;omega
     subst jF
     refine c_ ?_
     rw[Nat.mod_eq_of_lt E1] at al
     exact ⟨rfl,o,al,q,⟨ak.len,ak.m0,ak.aq,by simp[ak.f0],by simp[ak.f1],by simp[ak.f5],by simp[ak.f6],by simp[ak.cells],by simp[ak.cc],by have:=ak.d_;simp;omega⟩⟩
 · rintro s ⟨o,q,al,ak⟩
   have iG:=ak.len
   have f5:=ak.f5
   have dJ:=ak.cells
   have b':=qs (e:=false) ak.m0 (show o.length<=1073741824 by omega)
   rw[al] at b'
   have ez:List.take (A+B) (o.map fun n=>I.int .u32 (Z n))=o.map fun n=>I.int .u32 (Z n):=List.take_of_length_le (by simp;omega)
   have k_:A+B<=o.length:=by omega
   have K:=f5;clear f5
   refine bO [4,5] fun F k=>?_;clear K
   obtain⟨f4,f5⟩:=k
   have H:=c9 dJ b' ez k_ a6.symm bC.symm
   have K:=bs f4 f5;clear f4 f5
   exact a4 [4,5]
noncomputable def MR:FuncId->Option (List I->Option I):=cf [(242,Aj)]
theorem Xn:∀f T,MR f=some T->aH Tryz.prog G f T:=cg (by simp only[List.forall_mem_cons];exact ⟨Xm,fun _ h=>absurd h (by simp)⟩)
theorem Xo:MR 242=some Aj:=rfl
attribute [local simp] Xo
noncomputable def Am:List I->Option I:=a9 (fun z:Nat × Nat=>(aa z.1).length<=100000000/\(aa z.2).length<=100000000) (fun z=>[af z.1,af z.2]) (fun z=>af (z.1*z.2))
theorem Xp {a b:Nat} {e e':Bool} (aA:(aa a).length<=100000000) (ad:(aa b).length<=100000000):
 Am [.sl ((aa a).map fun n=> .int .u32 (Z n)) e,.sl ((aa b).map fun n=> .int .u32 (Z n)) e']=some (af (a*b)):=
 bk (fun z w h=>by simp[bo,bE] at h;simp[h]) (a,b) ⟨aA,ad⟩ (by simp)
theorem Xq:aH Tryz.prog G 181 Am:=by
 refine bf mixed Xn U3 fun z aq=>?_
 obtain⟨a,b⟩:=z
 have t:=Xl (e:=false) (e':=false) aq.1 aq.2
 unfold i181
 refine aJ [0,1,4] fun F K=>?_
 obtain⟨f0,f1,f4⟩:=K
 have H:=t
 have K:=bA f0 f1 f4;clear f0 f1 f4
 exact a4 [0,1,4]
end
section
attribute [local irreducible] ba
attribute [local simp] cY cI cm
def bn (o:List Nat):List I:=o.map fun n=> .int .u32 (Z n)
theorem kp {o:List Nat} {i:Nat} (h:i<o.length):(bn o)[i]? =some (.int .u32 (Z (aE o i))):=pt h
theorem pE (o:List Nat) (i v:Nat):(bn o).set i (.int .u32 (Z v))=bn (o.set i v):=map_set o i v
theorem qB (o:List Nat):(bn o).length=o.length:=by simp[bn]
theorem kR {o:List Nat} (h:0<o.length):sizedB 1 (some (bn o))=true:=by
 simp[sizedB,bn,I.cells];exact h
theorem An (n:Nat):List.replicate n (I.int .u32 (Z 0))=bn (List.replicate n 0):=VJ n
theorem Ao (o:List Nat):(bn o).all I.dQ=true:=xj o
theorem Ap {o:List Nat} {n:Nat} (h:o.length<=n):List.take n (bn o)=bn o:=List.take_of_length_le (by rw[qB];exact h)
structure fv (h:ah) (q:Nat) (o:List Nat):Prop where
 cells:h.cells q=some (bn o)
 cc:h.shut q=false
 d_:q<h.next
theorem fv.bump {h:ah} {q:Nat} {o:List Nat} (R:fv h q o) (m:Nat) (p:Nat->Option fX) (hm:h.next<=m):fv ⟨h.cells,h.shut,m,p⟩ q o:=⟨R.cells,R.cc,Nat.lt_of_lt_of_le R.d_ hm⟩
theorem fv.put {h:ah} {q:Nat} {o:List Nat} (R:fv h q o) (o':List Nat) (m:Nat) (p:Nat->Option fX) (hm:h.next<=m):fv ⟨au h.cells q (some (bn o')),h.shut,m,p⟩ q o':=
 ⟨by simp only[au,if_true],R.cc,Nat.lt_of_lt_of_le R.d_ hm⟩
theorem fv.new {h:ah} {q:Nat} {o:List Nat} (m:Nat) (p:Nat->Option fX) (aw:h.shut q=false) (aM:q<m):fv ⟨au h.cells q (some (bn o)),h.shut,m,p⟩ q o:=
 ⟨by simp only[au,if_true],aw,aM⟩
noncomputable def MS:FuncId->Option (List I->Option I):=cf [(170,kQ)]
theorem Xr:∀f T,MS f=some T->aH Tryz.prog G f T:=cg (by simp only[List.forall_mem_cons];exact ⟨qv,fun _ h=>absurd h (by simp)⟩)
theorem Xs:MS 170=some kQ:=rfl
attribute [local simp] Xs
def MT (a b A B i:Nat) (s:aL):Prop:=∃q o,o.length=A+B/\Small o/\(∀j,i+B<=j->aE o j=0)/\val o=a%an i*b/\s.F 5= .ref q 0 (A+B) (A+B)/\fv s.h q o
def MU (a b A B i x k:Nat) (s:aL):Prop:=∃q o c,o.length=A+B/\Small o/\(∀j,i+B<=j->aE o j=0)/\c<4294967296/\val o+an i*an k*c=a%an i*b+an i*(x*(b%an k))/\s.F 5= .ref q 0 (A+B) (A+B)/\s.F 8=fu c/\fv s.h q o
noncomputable def vl:List I->Option I:=a9 (fun z:Nat × Nat=>(aa z.1).length<=100000000/\(aa z.2).length<=100000000) (fun z=>[af z.1,af z.2]) (fun z=>af (z.1*z.2))
theorem MV (z:Nat × Nat) (h:(aa z.1).length<=100000000/\(aa z.2).length<=100000000) {args:List I} (he:args.map I.loose= [af z.1,af z.2]):vl args=some (af (z.1*z.2)):=bk (fun z w h=>by simp only[List.cons.injEq,I.int.injEq,I.bool.injEq,I.sl.injEq,bX,bU,bS,b4,b2,bo,bE,bZ,bj,true_and,and_true] at h;simp[h]) z h he
theorem MW:aH Tryz.prog G 203 vl:=by
 refine bf mixed Xr K6 fun z aq=>?_
 obtain⟨a,b⟩:=z
 obtain⟨br,Xt⟩:=aq
 simp only at br Xt|-
 have aA:=dx a
 have ad:=dx b
 obtain⟨A,a6⟩:∃A,A=(aa a).length:=⟨_,rfl⟩
 obtain⟨B,bC⟩:∃B,B=(aa b).length:=⟨_,rfl⟩
 have E1:a<an A:=cC.1 (by omega)
 have E2:b<an B:=cC.1 (by omega)
 have hw:IntKind.i64.wrap (Z A+Z B)=Z (A+B):=dp (by omega)
 have aS:Z (A+B)*4<=140737488355328:=by simp only[Z];omega
 unfold i203
 refine aJ [0,1,4,5,6,7,8,9,10,17,18,19,20,24,25,26,27] fun F K=>?_
 obtain⟨f0,f1,f4,f5,f6,f7,f8,f9,f10,f17,f18,f19,f20,f24,f25,f26,f27⟩:=K
 have H:=bx a6.symm bC.symm hw aS (@An)
 have K:=xe f0 f1 f4 f5 f6 f7 f8 f9 f10 f17 f18 f19 f20 f24 f25 f26 f27;clear f0 f1 f4 f5 f6 f7 f8 f9 f10 f17 f18 f19 f20 f24 f25 f26 f27
 refine bB [0,1,4,5,6,7,8,9,10,17,18,19,20,24,25,26,27] fun F k=>?_;clear K H
 obtain⟨f0,f1,f4,f5,f6,f7,f8,f9,f10,f17,f18,f19,f20,f24,f25,f26,f27⟩:=k
 refine fR A (fun i s=>MT a b A B i s/\s.F 19=aK i) (MT a b A B A) (fun _=>False) ?_ ?_ ?_ (fun _ _ h=>h.elim)
 · exact ⟨⟨_,List.replicate (A+B) 0,by simp,qt _,fun j _=>xn _ _,by simp[s3,fE,Nat.mod_one],f5,⟨by simp[au],by simp,by simp⟩⟩,f19⟩
 · rintro i s ab ag ⟨⟨q,o,iG,fF,aq,al,dy,V⟩,Xu⟩
   replace f0:=(ag 0 rfl).trans f0;replace f1:=(ag 1 rfl).trans f1;replace f17:=(ag 17 rfl).trans f17;replace f18:=(ag 18 rfl).trans f18
   clear f5 f19
   have f5:=dy
   have f19:=Xu
   have K:=c9 f0 f1 f5 f17 f18 f19;clear f0 f1 f5 f17 f18 f19
   refine bO [0,1,5,6,7,8,17,18,19,20,24,25,26] fun F k=>?_;clear K
   obtain⟨f0,f1,f5,f6,f7,f8,f17,f18,f19,f20,f24,f25,f26⟩:=k
   by_cases lA:i<A
   · have ae:=aA.aE i
     have nD:=(kc (show i<(aa a).length by omega)).symm
     have vh:=iF a i
     generalize jh:aE (aa a) i=x at*
     have H:=bx lA nD jh a6.symm bC.symm
     have K:=kM f0 f1 f5 f6 f7 f8 f17 f18 f19 f20 f24 f25 f26;clear f0 f1 f5 f6 f7 f8 f17 f18 f19 f20 f24 f25 f26
     refine bB [0,1,5,6,7,8,17,18,19,20,24,25,26] fun F k=>?_;clear K H
     obtain⟨f0,f1,f5,f6,f7,f8,f17,f18,f19,f20,f24,f25,f26⟩:=k
     refine fR B (fun k s=>MU a b A B i x k s/\s.F 26=aK k) (MU a b A B i x B) (fun _=>False) ?_ ?_ ?_ (fun _ _ h=>h.elim)
     · exact ⟨⟨q,o,0,iG,fF,aq,by omega,by simp[al,fE,Nat.mod_one],f5,f8,V.bump _ _ (by omega)⟩,f26⟩
     · rintro k s jz ag ⟨⟨q,o,c,iG,fF,aq,m6,al,dy,jK,V⟩,xz⟩
       replace f0:=(ag 0 rfl).trans f0;replace f1:=(ag 1 rfl).trans f1;replace f6:=(ag 6 rfl).trans f6;replace f7:=(ag 7 rfl).trans f7;replace f17:=(ag 17 rfl).trans f17;replace f18:=(ag 18 rfl).trans f18;replace f19:=(ag 19 rfl).trans f19;replace f24:=(ag 24 rfl).trans f24;replace f25:=(ag 25 rfl).trans f25
       clear f5 f8 f26
       have f5:=dy
       have f8:=jK
       have f26:=xz
       have K:=k4 f0 f1 f5 f6 f7 f8 f17 f18 f19 f24 f25 f26;clear f0 f1 f5 f6 f7 f8 f17 f18 f19 f24 f25 f26
       refine bO [0,1,5,6,7,8,9,10,17,18,19,24,25,26,27] fun F k=>?_;clear K
       obtain⟨f0,f1,f5,f6,f7,f8,f9,f10,f17,f18,f19,f24,f25,f26,f27⟩:=k
       by_cases lr:k<B
       · have aN:=ad.aE k
         have pD:=(kc (show k<(aa b).length by omega)).symm
         have iJ:=iF b k
         have az:=fF.aE (i+k)
         have go:=kp (show i+k<o.length by omega)
         generalize j9:aE (aa b) k=y at*
         generalize qz:aE o (i+k)=z at*
         have mf:=MP ae aN
         have o4:x*y+z<18446744073709551616:=by omega
         have qd:c+(x*y+z)<18446744073709551616:=by omega
         have mc:i+k<A+B:=by omega
         have sz:=kR (show 0<o.length by omega)
         have st:=pE o (i+k) ((c+(x*y+z))%4294967296)
         have dJ:=V.cells
         have fh:=V.cc
         have H:=kM lr dJ fh pD go j9 o4 qd mc sz st a6.symm bC.symm
         have K:=xd f0 f1 f5 f6 f7 f8 f9 f10 f17 f18 f19 f24 f25 f26 f27;clear f0 f1 f5 f6 f7 f8 f9 f10 f17 f18 f19 f24 f25 f26 f27
         refine bB [0,1,5,6,7,8,9,10,17,18,19,24,25,26,27] fun F k=>?_;clear K H
         obtain⟨f0,f1,f5,f6,f7,f8,f9,f10,f17,f18,f19,f24,f25,f26,f27⟩:=k
         have iH:=nw ((c+(x*y+z))%4294967296) (show i+k<o.length by omega)
         rw[qz,iO] at iH
         have vk:=MQ (B:=4294967296) (q:=(c+(x*y+z))/4294967296) iH (show c+(x*y+z)=x*y+z+c by omega) (Nat.div_add_mod _ _).symm (show val o+an i*an k*c=a%an i*b+an i*(x*(b%an k)) from al)
         refine⟨q,o.set (i+k) ((c+(x*y+z))%4294967296),(c+(x*y+z))/4294967296,by rw[List.length_set];exact iG,nx fF (Nat.mod_lt _ (by decide)),fun j aC=>?_,by omega,?_,f5,f8,V.put _ _ _ (by omega)⟩
         · rw[n0 _ _ (by omega),if_neg (by omega)]
           exact aq j aC
         · rw[mr,eo,<-iJ,<-Nat.mul_assoc]
           exact vk
       · have E4:k=B:=by omega
         subst E4
         have H:=lr
         have K:=xd f0 f1 f5 f6 f7 f8 f9 f10 f17 f18 f19 f24 f25 f26 f27;clear f0 f1 f5 f6 f7 f8 f9 f10 f17 f18 f19 f24 f25 f26 f27
         refine bB [0,1,5,6,7,8,9,10,17,18,19,24,25,26,27] fun F k=>?_;clear K H
         obtain⟨f0,f1,f5,f6,f7,f8,f9,f10,f17,f18,f19,f24,f25,f26,f27⟩:=k
         exact ⟨q,o,c,iG,fF,aq,m6,al,f5,f8,V.bump _ _ (by omega)⟩
     · rintro s ag ⟨q,o,c,iG,fF,aq,m6,al,dy,jK,V⟩
       rw[Nat.mod_eq_of_lt E2] at al
       replace f0:=(ag 0 rfl).trans f0;replace f1:=(ag 1 rfl).trans f1;replace f6:=(ag 6 rfl).trans f6;replace f7:=(ag 7 rfl).trans f7;replace f17:=(ag 17 rfl).trans f17;replace f18:=(ag 18 rfl).trans f18;replace f19:=(ag 19 rfl).trans f19;replace f24:=(ag 24 rfl).trans f24;replace f25:=(ag 25 rfl).trans f25
       clear f5 f8 f26
       have f5:=dy
       have f8:=jK
       have K:=ia f0 f1 f5 f6 f7 f8 f17 f18 f19;clear f0 f1 f5 f6 f7 f8 f17 f18 f19
       refine bO [0,1,5,6,7,8,17,18,19] fun F k=>?_;clear K
       obtain⟨f0,f1,f5,f6,f7,f8,f17,f18,f19⟩:=k
       have qA:i+B<A+B:=by omega
       have sz:=kR (show 0<o.length by omega)
       have st:=pE o (i+B) c
       have lH:=kp (show i+B<o.length by omega)
       have dJ:=V.cells
       have fh:=V.cc
       have H:=ia dJ fh qA sz st lH m6 a6.symm bC.symm
       have K:=ia f0 f1 f5 f6 f7 f8 f17 f18 f19;clear f0 f1 f5 f6 f7 f8 f17 f18 f19
       refine bB [0,1,5,6,7,8,17,18,19] fun F k=>?_;clear K H
       obtain⟨f0,f1,f5,f6,f7,f8,f17,f18,f19⟩:=k
       have iH:=nw c (show i+B<o.length by omega)
       rw[aq (i+B) (by omega),Nat.mul_zero,Nat.add_zero,iO] at iH
       refine⟨q,o.set (i+B) c,by rw[List.length_set];exact iG,nx fF m6,fun j aC=>?_,?_,f5,V.put _ _ _ (by omega)⟩
       · rw[n0 _ _ (by omega),if_neg (by omega)]
         exact aq j (by omega)
       · rw[iH,mr,<-vh,Nat.add_mul,al,Nat.mul_assoc]
   · have jF:i=A:=by omega
     subst jF
     have H:=lA
     have K:=kM f0 f1 f5 f6 f7 f8 f17 f18 f19 f20 f24 f25 f26;clear f0 f1 f5 f6 f7 f8 f17 f18 f19 f20 f24 f25 f26
     refine bB [0,1,5,6,7,8,17,18,19,20,24,25,26] fun F k=>?_;clear K H
     obtain⟨f0,f1,f5,f6,f7,f8,f17,f18,f19,f20,f24,f25,f26⟩:=k
     exact ⟨q,o,iG,fF,aq,al,f5,V.bump _ _ (by omega)⟩
 · rintro s ag ⟨q,o,iG,fF,aq,al,dy,V⟩
   rw[Nat.mod_eq_of_lt E1] at al
   clear f5 f19
   have f5:=dy
   have dJ:=V.cells
   have b':=py (e:=false) fF (show o.length<=1073741824 by omega)
   rw[al] at b'
   have ez:=Ap (show o.length<=A+B by omega)
   have nn:=Ao o
   have ay:=qB o
   have hle:A+B<=(bn o).length:=by omega
   have K:=f5;clear f5
   refine bO [4,5] fun F k=>?_;clear K
   obtain⟨f4,f5⟩:=k
   rw[show (o.map fun n=>I.int .u32 (Z n))=bn o from rfl] at b'
   have H:=bx dJ b' ez nn hle
   have K:=bs f4 f5;clear f4 f5
   exact a4 [4,5]
end
section
attribute [local irreducible] ba
attribute [local simp] cY cI cm
noncomputable def E5:FuncId->Option (List I->Option I):=cf [(170,kQ),(185,pB)]
theorem MX:∀f T,E5 f=some T->aH Tryz.prog G f T:=cg (by simp only[List.forall_mem_cons];exact ⟨qv,z_,fun _ h=>absurd h (by simp)⟩)
theorem Xv:E5 170=some kQ:=rfl
theorem Xw:E5 185=some pB:=rfl
attribute [local simp] Xv Xw
theorem Xx {a L k n:Nat} (a6:a<an L) (ag:k<=n):a/an (min k L)%an (min n L - min k L)=a%an n/an k:=by
 by_cases U:n<=L
 · rw[Nat.min_eq_left (by omega),Nat.min_eq_left U,<-Nat.mod_mul_right_div_self,<-iO,show k+(n - k)=n by omega]
 · rw[Nat.min_eq_right (show L<=n by omega),Nat.mod_eq_of_lt (Nat.lt_of_lt_of_le a6 (lU (by omega:L<=n)))]
   by_cases h2:k<=L
   · rw[Nat.min_eq_left h2,Nat.mod_eq_of_lt]
     rw[Nat.div_lt_iff_lt_mul (jJ k),<-iO,show L - k+k=L by omega]
     exact a6
   · rw[Nat.min_eq_right (by omega),Nat.sub_self,fE,Nat.mod_one,Nat.div_eq_of_lt (Nat.lt_of_lt_of_le a6 (lU (by omega)))]
noncomputable def rH:List I->Option I:=a9 (fun z:Nat × Nat × Nat=>(aa z.1).length<=1000000000/\z.2.1<=z.2.2/\z.2.2<=1000000000000) (fun z=>[af z.1,aK z.2.1,aK z.2.2]) (fun z=>af (z.1%an z.2.2/an z.2.1))
theorem xH (z:Nat × Nat × Nat) (h:(aa z.1).length<=1000000000/\z.2.1<=z.2.2/\z.2.2<=1000000000000) {args:List I} (he:args.map I.loose= [af z.1,aK z.2.1,aK z.2.2]):rH args=some (af (z.1%an z.2.2/an z.2.1)):=bk (fun z w h=>by simp only[List.cons.injEq,I.int.injEq,I.bool.injEq,I.sl.injEq,bX,bU,bS,b4,b2,bo,bE,bZ,bj,true_and,and_true] at h;simp[h]) z h he
theorem MY:aH Tryz.prog G 252 rH:=by
 refine bf mixed MX Lg fun z aq=>?_
 obtain⟨a,k,n⟩:=z
 obtain⟨br,ag,ai⟩:=aq
 simp only at br ag ai|-
 obtain⟨L,bh⟩:∃L,L=(aa a).length:=⟨_,rfl⟩
 have a6:a<an L:=cC.1 (by omega)
 have aA:=dx a
 have b':=py (e:=true) ((aA.drop (min k L)).take (min n L - min k L)) (by simp;omega)
 rw[Vn (aA.drop _),Ej aA,cm,Xx a6 ag,List.map_take,List.map_drop] at b'
 have cS:=u4 k L
 have dA:=u4 n L
 have U:min k L<=min n L:=by omega
 have h2:min n L<=L:=Nat.min_le_right _ _
 generalize a%an n/an k=r at*
 generalize ab:min k L=i at*
 generalize aC:min n L=j at*
 have aw:((aa a).map fun n=>I.int .u32 (Z n)).all (fun e=>e.cells.length == 1)=true:=by simp[I.cells]
 unfold i252
 refine aJ [0,1,2,6] fun F K=>?_
 obtain⟨f0,f1,f2,f6⟩:=K
 have H:=ia bh.symm ab aC cS dA U h2 aw b'
 have K:=bN f0 f1 f2 f6;clear f0 f1 f2 f6
 exact a4 [0,1,2,6]
noncomputable def la:List I->Option I:=a9 (fun z:Nat × Nat=>(aa z.1).length<=1000000000/\(aa z.2).length<=1000000000) (fun z=>[af z.1,af z.2]) (fun z=>af (z.1 - z.2))
theorem E6 (z:Nat × Nat) (h:(aa z.1).length<=1000000000/\(aa z.2).length<=1000000000) {args:List I} (he:args.map I.loose= [af z.1,af z.2]):la args=some (af (z.1 - z.2)):=bk (fun z w h=>by simp only[List.cons.injEq,I.int.injEq,I.bool.injEq,I.sl.injEq,bX,bU,bS,b4,b2,bo,bE,bZ,bj,true_and,and_true] at h;simp[h]) z h he
theorem E7:aH Tryz.prog G 257 la:=by
 refine bf mixed MX Lj fun z aq=>?_
 obtain⟨a,b⟩:=z
 obtain⟨br,bn⟩:=aq
 simp only at br bn|-
 have t:=xx (a:=a) (b:=b) (e:=false) (e':=false) br bn
 unfold i257
 by_cases h:a<b
 · rw[if_pos h] at t
   have dC:a - b=0:=by omega
   rw[dC]
   have dv:=eE
   refine aJ [0,1,4,5] fun F K=>?_
   obtain⟨f0,f1,f4,f5⟩:=K
   have H:=t
   have K:=bN f0 f1 f4 f5;clear f0 f1 f4 f5
   repeat' (first|refine dU ?_|refine dV ?_|((first|refine eL ?_|refine eM ?_|refine eN ?_|exact dX|refine dW ?_);try(refine ew [0,1,4,5] fun F k=>?_;replace K:=k;clear k))|(refine dY (fun J=>?_) (fun J=>?_)<;>first|(exfalso;simp(disch:=omega) [H] at J;done)|(exfalso;simp at J;omega)|simp at J)|((first|refine b3 ?_|refine c_ ?_);simp(disch:=omega) [H,K,dv])|exact trivial)
   all_goals obtain⟨f0,f1,f4,f5⟩:=K
 · rw[if_neg h] at t
   generalize a - b=c at*
   refine aJ [0,1,4,5] fun F K=>?_
   obtain⟨f0,f1,f4,f5⟩:=K
   have H:=t
   have K:=bN f0 f1 f4 f5;clear f0 f1 f4 f5
   exact a4 [0,1,4,5]
theorem E8:∀z w:Nat × Nat,(fun z:Nat × Nat=>[af z.1,af z.2]) z=(fun z:Nat × Nat=>[af z.1,af z.2]) w->(fun z:Nat × Nat=>af (z.1*z.2)) z=(fun z:Nat × Nat=>af (z.1*z.2)) w:=fun z w h=>by simp only at h|-;first|(simp only[List.cons.injEq,I.int.injEq,I.bool.injEq,I.sl.injEq,bX,bU,bS,b4,b2,bo,bE,bZ,bj,true_and,and_true] at h;simp[h];done)|(simp only[I.agg.injEq,List.cons.injEq,I.int.injEq,I.bool.injEq,I.sl.injEq,bX,bU,bS,b4,b2,bo,bE,bZ,bj,true_and,and_true] at h;simp[h])
noncomputable def tj:List I->Option I:=a9 (fun z:Nat × Nat=>(aa z.1).length<=1000000/\(aa z.2).length<=1000000) (fun z:Nat × Nat=>[af z.1,af z.2]) (fun z:Nat × Nat=>af (z.1*z.2))
theorem MZ (z:Nat × Nat) (h:(aa z.1).length<=1000000/\(aa z.2).length<=1000000) {args:List I} (he:args.map I.loose= [af z.1,af z.2]):tj args=some (af (z.1*z.2)):=bk E8 z h he
noncomputable def vm (N:Nat):List I->Option I:=a9 (fun z:Nat × Nat=>((aa z.1).length<=1000000/\(aa z.2).length<=1000000)/\(max (aa z.1).length (aa z.2).length)<N) (fun z:Nat × Nat=>[af z.1,af z.2]) (fun z:Nat × Nat=>af (z.1*z.2))
theorem E9 {N:Nat} (z:Nat × Nat) (h:((aa z.1).length<=1000000/\(aa z.2).length<=1000000)/\(max (aa z.1).length (aa z.2).length)<N) {args:List I} (he:args.map I.loose= [af z.1,af z.2]):vm N args=some (af (z.1*z.2)):=bk E8 z h he
theorem Xy (h:∀N,aH Tryz.prog G 202 (vm N)->aH Tryz.prog G 202 (vm (N+1))):aH Tryz.prog G 202 tj:=J_ E8 (fun z:Nat × Nat=>max (aa z.1).length (aa z.2).length) h
noncomputable def tk (N:Nat):FuncId->Option (List I->Option I):=cf [(202,vm N),(203,vl),(252,rH),(257,la),(174,j2),(172,lX)]
theorem Xz {N:Nat} (h:aH Tryz.prog G 202 (vm N)):∀f T,tk N f=some T->aH Tryz.prog G f T:=cg (by simp only[List.forall_mem_cons];exact ⟨h,MW,MY,E7,va,z',fun _ h=>absurd h (by simp)⟩)
theorem XA (N:Nat):tk N 202=some (vm N):=rfl
theorem XB (N:Nat):tk N 203=some vl:=rfl
theorem XC (N:Nat):tk N 252=some rH:=rfl
theorem XD (N:Nat):tk N 257=some la:=rfl
theorem XE (N:Nat):tk N 174=some j2:=rfl
theorem XF (N:Nat):tk N 172=some lX:=rfl
attribute [local simp] XA XB XC XD XE XF
theorem XG {P a0 a1 b0 b1:Nat}:a0*b0+(((a0+a1)*(b0+b1) -(a0*b0+a1*b1))*P+a1*b1*(P*P))=(a0+P*a1)*(b0+P*b1):=by
 have e:(a0+a1)*(b0+b1)=(a0*b0+a1*b1)+(a0*b1+a1*b0):=by grind
 rw[e,Nat.add_sub_cancel_left];grind
theorem M0:aH Tryz.prog G 202 tj:=by
 refine Xy fun N a8=>?_
 refine bf mixed (Xz a8) K5 fun z aq=>?_
 obtain⟨a,b⟩:=z
 obtain⟨⟨br,bn⟩,iL⟩:=aq
 simp only at br bn iL|-
 obtain⟨L,bh⟩:∃L,L=(aa a).length:=⟨_,rfl⟩
 obtain⟨M,lC⟩:∃M,M=(aa b).length:=⟨_,rfl⟩
 obtain⟨n,ai⟩:∃n,n=max L M:=⟨_,rfl⟩
 have cS:=u3 L M
 have dA:=u4 L M
 rw[<-ai] at cS
 rw[<-bh] at iL br
 rw[<-lC] at iL bn
 have a6:a<an n:=cC.1 (by omega)
 have bC:b<an n:=cC.1 (by omega)
 unfold i202
 by_cases p9:min L M<4
 · have t:=MV (a,b) ⟨by simp only;omega,by simp only;omega⟩ (args:=[af a,af b]) (by simp)
   simp only at t
   generalize a*b=c at*
   refine aJ [0,1,4,5,6,7,8,9,10,11,12,13,24] fun F K=>?_
   obtain⟨f0,f1,f4,f5,f6,f7,f8,f9,f10,f11,f12,f13,f24⟩:=K
   have H:=c9 bh.symm lC.symm cS dA p9 t
   have K:=kM f0 f1 f4 f5 f6 f7 f8 f9 f10 f11 f12 f13 f24;clear f0 f1 f4 f5 f6 f7 f8 f9 f10 f11 f12 f13 f24
   exact a4 [0,1,4,5,6,7,8,9,10,11,12,13,24]
 · obtain⟨k,ag⟩:∃k,k=(n+1)/2:=⟨_,rfl⟩
   have lr:k<n:=by omega
   have b5:∀x,x<an n->rH [af x,aK 0,aK k]=some (af (x%an k)):=fun x ae=>by
    have:=xH (x,0,k) ⟨by simp only;have:=cC.2 ae;omega,Nat.zero_le _,by simp only;omega⟩ (args:=[af x,aK 0,aK k]) (by simp)
    simpa[fE] using this
   have bb:∀x,x<an n->rH [af x,aK k,aK n]=some (af (x/an k)):=fun x ae=>by
    have:=xH (x,k,n) ⟨by simp only;have:=cC.2 ae;omega,by simp only;omega,by simp only;omega⟩ (args:=[af x,aK k,aK n]) (by simp)
    simpa[Nat.mod_eq_of_lt ae] using this
   have XH:=b5 a a6
   have M1:=bb a a6
   have XI:=b5 b bC
   have M3:=bb b bC
   have uS:∀x,(aa (x%an k)).length<=k:=fun x=>cC.2 (Nat.mod_lt _ (jJ k))
   have bJ:∀x,x<an n->(aa (x/an k)).length<=n - k:=fun x ae=>cC.2 (by
    rw[Nat.div_lt_iff_lt_mul (jJ k),<-iO,show n - k+k=n by omega];exact ae)
   have ajp:=uS a
   have ajq:=bJ a a6
   have ajr:=uS b
   have ajs:=bJ b bC
   have fJ:a*b=(a%an k+an k*(a/an k))*(b%an k+an k*(b/an k)):=by rw[Nat.mod_add_div,Nat.mod_add_div]
   rw[fJ]
   generalize a%an k=a0 at*
   generalize a/an k=a1 at*
   generalize b%an k=b0 at*
   generalize b/an k=b1 at*
   have ajt:=kz a0 a1
   have aju:=kz b0 b1
   have ajv:=kO a0 b0
   have ajw:=kO a1 b1
   have ls:=kO (a0+a1) (b0+b1)
   have lt:=kz (a0*b0) (a1*b1)
   have lm:=ib (Nat.sub_le ((a0+a1)*(b0+b1)) (a0*b0+a1*b1))
   have fin:=XG (P:=2^(32*k)) (a0:=a0) (a1:=a1) (b0:=b0) (b1:=b1)
   rw[<-Nat.pow_add,show 32*k+32*k=64*k by omega] at fin
   have XJ:(a0+2^(32*k)*a1)*(b0+2^(32*k)*b1)=(a0+an k*a1)*(b0+an k*b1):=by rw[kP]
   rw[XJ] at fin
   have t1:=E9 (N:=N) (a0,b0) ⟨⟨by simp only;omega,by simp only;omega⟩,by simp only;omega⟩ (args:=[af a0,af b0]) (by simp)
   have t2:=E9 (N:=N) (a1,b1) ⟨⟨by simp only;omega,by simp only;omega⟩,by simp only;omega⟩ (args:=[af a1,af b1]) (by simp)
   have t3:=E9 (N:=N) (a0+a1,b0+b1) ⟨⟨by simp only;omega,by simp only;omega⟩,by simp only;omega⟩ (args:=[af (a0+a1),af (b0+b1)]) (by simp)
   have s1:=nA (a:=a0) (b:=a1) (e:=false) (e':=false) (by omega) (by omega)
   have s2:=nA (a:=b0) (b:=b1) (e:=false) (e':=false) (by omega) (by omega)
   have jg:=nA (a:=a0*b0) (b:=a1*b1) (e:=false) (e':=false) (by omega) (by omega)
   have mC:=E6 ((a0+a1)*(b0+b1),a0*b0+a1*b1) ⟨by simp only;omega,by simp only;omega⟩ (args:=[af ((a0+a1)*(b0+b1)),af (a0*b0+a1*b1)]) (by simp)
   simp only at t1 t2 t3 mC
   generalize (a0+a1)*(b0+b1) -(a0*b0+a1*b1)=mid at*
   have kS:=td (a:=mid) (n:=32*k) (e:=false) (by omega) (by omega)
   have oI:=td (a:=a1*b1) (n:=64*k) (e:=false) (by omega) (by omega)
   have wM:=kO mid (2^(32*k))
   have R4:=kO (a1*b1) (2^(64*k))
   have E_:(aa (2^(32*k))).length<=k+1:=cC.2 (by rw[<-kP,eo];have:=jJ k;omega)
   have ajx:(aa (2^(64*k))).length<=2*k+1:=cC.2 (by rw[show 64*k=32*(2*k) by omega,<-kP,eo];have:=jJ (2*k);omega)
   have oG:=nA (a:=mid*2^(32*k)) (b:=a1*b1*2^(64*k)) (e:=false) (e':=false) (by omega) (by omega)
   have R5:=kz (mid*2^(32*k)) (a1*b1*2^(64*k))
   have oJ:=nA (a:=a0*b0) (b:=mid*2^(32*k)+a1*b1*2^(64*k)) (e:=false) (e':=false) (by omega) (by omega)
   rw[fin] at oJ
   generalize (a0+an k*a1)*(b0+an k*b1)=c at*
   generalize mid*2^(32*k)+a1*b1*2^(64*k)=b8 at*
   generalize mid*2^(32*k)=bQ at*
   generalize a1*b1*2^(64*k)=cE at*
   generalize a0*b0+a1*b1=c1 at*
   generalize (a0+a1)*(b0+b1)=k1 at*
   generalize a0*b0=mW at*
   generalize a1*b1=kk at*
   generalize a0+a1=oz at*
   generalize b0+b1=ajy at*
   have b7:IntKind.i64.wrap (Z 32*Z k)=Z (32*k):=pn (by omega)
   have c4:IntKind.i64.wrap (Z 64*Z k)=Z (64*k):=pn (by omega)
   have iT:(n+1)/2=k:=ag.symm
   refine aJ [0,1,4,5,6,7,8,9,10,11,12,13,24] fun F K=>?_
   obtain⟨f0,f1,f4,f5,f6,f7,f8,f9,f10,f11,f12,f13,f24⟩:=K
   have H:=Uk bh.symm lC.symm cS dA p9 b7 c4 iT XH M1 XI M3 t1 t2 t3 s1 s2 jg mC kS oI oG oJ
   have K:=kM f0 f1 f4 f5 f6 f7 f8 f9 f10 f11 f12 f13 f24;clear f0 f1 f4 f5 f6 f7 f8 f9 f10 f11 f12 f13 f24
   exact a4 [0,1,4,5,6,7,8,9,10,11,12,13,24]
end
section
attribute [local irreducible] ba
attribute [local simp] cY cI cm
noncomputable def Aq:FuncId->Option (List I->Option I):=cf [(170,kQ),(185,pB),(257,la)]
theorem M4:∀f T,Aq f=some T->aH Tryz.prog G f T:=cg (by simp only[List.forall_mem_cons];exact ⟨qv,z_,E7,fun _ h=>absurd h (by simp)⟩)
theorem XK:Aq 170=some kQ:=rfl
theorem XL:Aq 185=some pB:=rfl
theorem XM:Aq 257=some la:=rfl
attribute [local simp] XK XL XM
def M5 (a L m:Nat) (s:aL):Prop:=∃q o r,o.length=L/\Small o/\(∀j,j<m->aE o j=0)/\r<3/\3*val o+an m*r=an m*(a/an m)/\s.F 3= .ref q 0 L L/\s.F 4=fu r/\fv s.h q o
theorem XN {o o' P B y v q r c d:Nat} (al:o'+P*y=o+P*v) (aN:y=0) (h:3*o+P*B*c=P*B*q) (a3:c*B+d=3*v+r):3*o'+P*r=P*(d+B*q):=by
 subst aN
 have e:P*(c*B+d)=P*(3*v+r):=by rw[a3]
 grind
theorem M6 {r x:Nat} (ae:x<4294967296):r*4294967296|||x=r*4294967296+x:=by
 have e:(4294967296:Nat)=2^32:=by decide
 rw[e] at ae|-
 rw[Nat.mul_comm,Nat.two_pow_add_eq_or_of_lt ae]
theorem XO {a o m r x:Nat} (aR:r<3) (ae:x<4294967296) (jh:x=a/an m%4294967296) (al:3*o+an (m+1)*r=an (m+1)*(a/an (m+1))):
 ∃R,r*4294967296=R/\R|||x=R+x/\R+x<18446744073709551616/\(R+x)/3<4294967296/\(R+x)/3<18446744073709551616/\
  ∀o',o'+an m*0=o+an m*((R+x)/3)->3*o'+an m*((R+x)%3)=an m*(a/an m):=by
 refine⟨r*4294967296,rfl,M6 ae,by omega,by omega,by omega,fun o' az=>?_⟩
 · rw[eo] at al
   have:=XN az rfl al (show r*4294967296+x=3*((r*4294967296+x)/3)+(r*4294967296+x)%3 by omega)
   rw[this,jh,<-eo,rq,Nat.mod_add_div]
theorem tl:(Z 0<=(-1:Int))=False:=eq_false (by decide)
theorem E':(Z 0<(3:Int))=True:=eq_true (by decide)
theorem Fa:(Z 1<(3:Int))=True:=eq_true (by decide)
theorem Fb:(Z 2<(3:Int))=True:=eq_true (by decide)
noncomputable def tm:List I->Option I:=a9 (fun z:Nat=>(aa z).length<=100000000/\z%3=0) (fun z=>[af z]) (fun z=>af (z/3))
theorem XP (z:Nat) (h:(aa z).length<=100000000/\z%3=0) {args:List I} (he:args.map I.loose= [af z]):tm args=some (af (z/3)):=bk (fun z w h=>by simp only[List.cons.injEq,I.int.injEq,I.bool.injEq,I.sl.injEq,bX,bU,bS,b4,b2,bo,bE,bZ,bj,true_and,and_true] at h;simp[h]) z h he
theorem XQ:aH Tryz.prog G 258 tm:=by
 refine bf mixed M4 Lk fun a aq=>?_
 obtain⟨br,aB⟩:=aq
 have aA:=dx a
 obtain⟨L,bh⟩:∃L,L=(aa a).length:=⟨_,rfl⟩
 have a6:a<an L:=cC.1 (by omega)
 have aS:Z L*4<=140737488355328:=by simp only[Z];omega
 have tg:IntKind.i64.wrap (Z L - Z 1)=fb L:=kd (by omega)
 unfold i258
 refine aJ [0,2,3,4,5,13] fun F K=>?_
 obtain⟨f0,f2,f3,f4,f5,f13⟩:=K
 have H:=bN bh.symm aS tg (@An)
 have K:=c9 f0 f2 f3 f4 f5 f13;clear f0 f2 f3 f4 f5 f13
 refine bB [0,2,3,4,5,13] fun F k=>?_;clear K H
 obtain⟨f0,f2,f3,f4,f5,f13⟩:=k
 refine mY (fun m s=>m<=L/\M5 a L m s/\s.F 5= .int .i64 (fb m)) (M5 a L 0) (fun _=>False) L ?_ ?_ ?_ (fun _ _ h=>h.elim)
 · refine⟨Nat.le_refl _,⟨_,List.replicate L 0,0,by simp,qt _,fun j _=>xn _ _,by decide,by simp[s3,Nat.div_eq_of_lt a6],f3,f4,⟨by simp[au],by simp,by simp⟩⟩,f5⟩
 · rintro m s ag ⟨hm,⟨q,o,r,iG,fF,aq,aR,al,eB,iB,V⟩,dy⟩
   replace f0:=(ag 0 rfl).trans f0
   clear f3 f4 f5
   have f3:=eB
   have f4:=iB
   have f5:=dy
   have K:=bN f0 f3 f4 f5;clear f0 f3 f4 f5
   refine bO [0,3,4,5,13] fun F k=>?_;clear K
   obtain⟨f0,f3,f4,f5,f13⟩:=k
   cases m with
   | zero=>
     rw[qq] at f5
     have H:=(@tl)
     have K:=bx f0 f3 f4 f5 f13;clear f0 f3 f4 f5 f13
     refine bB [0,3,4,5,13] fun F k=>?_;clear K H
     obtain⟨f0,f3,f4,f5,f13⟩:=k
     exact ⟨q,o,r,iG,fF,aq,aR,al,f3,f4,V.bump _ _ (by omega)⟩
   | succ m=>
     rw[oE] at f5
     have ae:=aA.aE m
     have nD:=(kc (show m<(aa a).length by omega)).symm
     have vh:=iF a m
     have go:=kp (show m<o.length by omega)
     have sz:=kR (show 0<o.length by omega)
     generalize jh:aE (aa a) m=x at*
     obtain⟨R,sl,j7,EW,xo,XR,iz⟩:=XO aR ae vh al
     have st:=pE o m ((R+x)/3)
     have dJ:=V.cells
     have fh:=V.cc
     have tg:IntKind.i64.wrap (Z m - Z 1)=fb m:=kd (by omega)
     have Ey:m<L:=by omega
     clear al vh
     have H:=xd dJ fh nD go jh sl j7 EW XR xo sz st tg Ey bh.symm
     have K:=bx f0 f3 f4 f5 f13;clear f0 f3 f4 f5 f13
     refine bB [0,3,4,5,13] fun F k=>?_;clear K H
     obtain⟨f0,f3,f4,f5,f13⟩:=k
     have iH:=nw ((R+x)/3) (show m<o.length by omega)
     rw[aq m (by omega)] at iH
     refine⟨m,Nat.lt_succ_self m,by omega,⟨q,o.set m ((R+x)/3),(R+x)%3,by rw[List.length_set];exact iG,nx fF xo,fun j aC=>?_,by omega,iz _ iH,f3,f4,V.put _ _ _ (by omega)⟩,rfl⟩
     · rw[n0 _ _ (by omega),if_neg (by omega)]
       exact aq j (by omega)
 · rintro s ag ⟨q,o,r,iG,fF,aq,aR,al,eB,iB,V⟩
   rw[fE,Nat.div_one] at al
   have lP:val o=a/3:=by omega
   clear f3 f4 f5
   have f3:=eB
   have dJ:=V.cells
   have b':=py (e:=false) fF (show o.length<=1073741824 by omega)
   rw[lP] at b'
   have ez:=Ap (show o.length<=L by omega)
   have nn:=Ao o
   have ay:=qB o
   have hle:L<=(bn o).length:=by omega
   have K:=f3;clear f3
   refine bO [2,3] fun F k=>?_;clear K
   obtain⟨f2,f3⟩:=k
   rw[show (o.map fun n=>I.int .u32 (Z n))=bn o from rfl] at b'
   have H:=bx dJ b' ez nn hle
   have K:=bs f2 f3;clear f2 f3
   exact a4 [2,3]
noncomputable def Ar:List I->Option I:=a9 (fun z:Nat × Nat=>(aa z.1).length<=1000000000/\(aa z.2).length<=1000000000) (fun z=>[af z.1,af z.2]) (fun z=> .bL [af (if z.1<z.2 then z.2 - z.1 else z.1 - z.2),.bool (decide (z.1<z.2))])
theorem XS (z:Nat × Nat) (h:(aa z.1).length<=1000000000/\(aa z.2).length<=1000000000) {args:List I} (he:args.map I.loose= [af z.1,af z.2]):Ar args=some (.bL [af (if z.1<z.2 then z.2 - z.1 else z.1 - z.2),.bool (decide (z.1<z.2))]):=bk (fun z w h=>by simp only[List.cons.injEq,I.int.injEq,I.bool.injEq,I.sl.injEq,bX,bU,bS,b4,b2,bo,bE,bZ,bj,true_and,and_true] at h;simp[h]) z h he
theorem XT:aH Tryz.prog G 280 Ar:=by
 refine bf mixed M4 Lt fun z aq=>?_
 obtain⟨a,b⟩:=z
 obtain⟨br,bn⟩:=aq
 simp only at br bn|-
 have t:=xx (a:=a) (b:=b) (e:=false) (e':=false) br bn
 unfold i280
 by_cases h:a<b
 · rw[if_pos h] at t
   have t2:=E6 (b,a) ⟨bn,br⟩ (args:=[af b,af a]) (by simp)
   simp only at t2
   rw[if_pos h,decide_eq_true h]
   generalize b - a=c at*
   refine aJ [0,1,4,5,6,7,14] fun F K=>?_
   obtain⟨f0,f1,f4,f5,f6,f7,f14⟩:=K
   have H:=bs t t2
   have K:=de f0 f1 f4 f5 f6 f7 f14;clear f0 f1 f4 f5 f6 f7 f14
   exact a4 [0,1,4,5,6,7,14]
 · rw[if_neg h] at t
   rw[if_neg h,decide_eq_false h]
   generalize a - b=c at*
   refine aJ [0,1,4,5,6,7,14] fun F K=>?_
   obtain⟨f0,f1,f4,f5,f6,f7,f14⟩:=K
   have H:=t
   have K:=de f0 f1 f4 f5 f6 f7 f14;clear f0 f1 f4 f5 f6 f7 f14
   exact a4 [0,1,4,5,6,7,14]
noncomputable def As:FuncId->Option (List I->Option I):=cf [(174,j2),(172,lX),(280,Ar)]
theorem XU:∀f T,As f=some T->aH Tryz.prog G f T:=cg (by simp only[List.forall_mem_cons];exact ⟨va,z',XT,fun _ h=>absurd h (by simp)⟩)
theorem XV:As 174=some j2:=rfl
theorem XW:As 172=some lX:=rfl
theorem XX:As 280=some Ar:=rfl
attribute [local simp] XV XW XX
def mD (a b c:Nat):Nat:=if a+c<b then b -(a+c) else a+c - b
noncomputable def vn:List I->Option I:=a9 (fun z:Nat × Nat × Nat=>(aa z.1).length<=10000000/\(aa z.2.1).length<=10000000/\(aa z.2.2).length<=10000000) (fun z=>[.agg [af z.1,af z.2.1,af z.2.2]]) (fun z=> .bL [af (z.1+z.2.2+z.2.1),af (mD z.1 z.2.1 z.2.2),af (z.1+(z.2.1*2^1+z.2.2*2^2)),.bool (decide (z.1+z.2.2<z.2.1))])
theorem M7 (z:Nat × Nat × Nat) (h:(aa z.1).length<=10000000/\(aa z.2.1).length<=10000000/\(aa z.2.2).length<=10000000) {args:List I} (he:args.map I.loose= [.agg [af z.1,af z.2.1,af z.2.2]]):vn args=some (.bL [af (z.1+z.2.2+z.2.1),af (mD z.1 z.2.1 z.2.2),af (z.1+(z.2.1*2^1+z.2.2*2^2)),.bool (decide (z.1+z.2.2<z.2.1))]):=bk (fun z w h=>by simp only[I.agg.injEq,List.cons.injEq,I.int.injEq,I.bool.injEq,I.sl.injEq,bX,bU,bS,b4,b2,bo,bE,bZ,bj,true_and,and_true] at h;simp[h]) z h he
theorem XY:aH Tryz.prog G 256 vn:=by
 refine bf mixed XU Li fun z aq=>?_
 obtain⟨a,b,c⟩:=z
 obtain⟨br,bn,lc⟩:=aq
 simp only at br bn lc|-
 have ajz:=kz a c
 have t1:=nA (a:=a) (b:=c) (e:=false) (e':=false) (by omega) (by omega)
 have t2:=nA (a:=a+c) (b:=b) (e:=false) (e':=false) (by omega) (by omega)
 have t3:=XS (a+c,b) ⟨by simp only;omega,by simp only;omega⟩ (args:=[af (a+c),af b]) (by simp)
 have t4:=td (a:=b) (n:=1) (e:=false) (by omega) (by omega)
 have t5:=td (a:=c) (n:=2) (e:=false) (by omega) (by omega)
 have lZ:=kO b (2^1)
 have ajA:=kO c (2^2)
 have mg:(aa (2^1)).length<=1:=cC.2 (by rw[mZ];decide)
 have kt:(aa (2^2)).length<=1:=cC.2 (by rw[mZ];decide)
 have M8:=kz (b*2^1) (c*2^2)
 have t6:=nA (a:=b*2^1) (b:=c*2^2) (e:=false) (e':=false) (by omega) (by omega)
 have t7:=nA (a:=a) (b:=b*2^1+c*2^2) (e:=false) (e':=false) (by omega) (by omega)
 simp only at t3
 rw[show (if a+c<b then b -(a+c) else a+c - b)=mD a b c from rfl] at t3
 generalize decide (a+c<b)=neg at*
 generalize mD a b c=M9 at*
 generalize a+(b*2^1+c*2^2)=b8 at*
 generalize b*2^1+c*2^2=bQ at*
 generalize b*2^1=cE at*
 generalize c*2^2=c1 at*
 generalize a+c+b=k1 at*
 generalize a+c=mW at*
 unfold i256
 refine aJ [0,1,2,3,4,5,6] fun F K=>?_
 obtain⟨f0,f1,f2,f3,f4,f5,f6⟩:=K
 have H:=kb (@E') (@Fa) (@Fb) t1 t2 t3 t4 t5 t6 t7
 have K:=de f0 f1 f2 f3 f4 f5 f6;clear f0 f1 f2 f3 f4 f5 f6
 exact a4 [0,1,2,3,4,5,6]
end
end
section
set_option maxHeartbeats 8000000
open Go Go.Eng Go.RowKit
def two (ab cr:Nat):Nat:=ab*4294967296+cr
theorem Fc {ab cr:Nat} (h:ab<4294967296) (h2:cr<4294967296):∃R,ab*4294967296=R/\R|||cr=two ab cr/\R<18446744073709551616/\two ab cr<18446744073709551616:=
 ⟨_,rfl,M6 h2,by omega,by simp only[two];omega⟩
theorem M_ {ab cr y:Nat} (h:ab<y) (h2:cr<4294967296) (aN:y<4294967296):two ab cr/y<4294967296/\two ab cr%y<4294967296:=by
 refine⟨?_,Nat.lt_trans (Nat.mod_lt _ (by omega)) aN⟩
 rw[Nat.div_lt_iff_lt_mul (by omega),two]
 have aB:(ab+1)*4294967296<=y*4294967296:=Nat.mul_le_mul_right _ h
 rw[Nat.add_mul] at aB
 rw[Nat.mul_comm 4294967296]
 omega
def l0 (x2 x1 x0 y1 y0:Nat):Nat:=min (two (two x2 x1) x0/two y1 y0) 4294967295
theorem M' {x2 x1 x0 y1 y0:Nat}:l0 x2 x1 x0 y1 y0<=4294967295:=Nat.min_le_right _ _
theorem XZ {q r y1 y0 x2 x1 x0:Nat} (aM:q*y1+r=two x2 x1) (h:q*y0<=two r x0):q*two y1 y0<=two (two x2 x1) x0:=by
 rw[<-aM];simp only[two] at*;grind
theorem X0 {q r y1 y0 x2 x1 x0:Nat} (aM:q*y1+r=two x2 x1) (h:two r x0<q*y0):two (two x2 x1) x0<q*two y1 y0:=by
 rw[<-aM];simp only[two] at*;grind
theorem Na {q r y1 y0 x2 x1 x0:Nat} (aN:y1≠0) (aM:q*y1+r=two x2 x1) (p8:l0 x2 x1 x0 y1 y0<=q) (U:q<4294967296) (h:q*y0<=two r x0):q=l0 x2 x1 x0 y1 y0:=by
 have h2:q<=two (two x2 x1) x0/two y1 y0:=(Nat.le_div_iff_mul_le (by simp only[two];omega)).2 (XZ aM h)
 unfold l0 at*;omega
theorem X1 {q r y1 y0 x2 x1 x0:Nat} (aN:y1≠0) (aM:q*y1+r=two x2 x1) (h:4294967296<=q\/two r x0<q*y0):l0 x2 x1 x0 y1 y0<=q - 1/\1<=q:=by
 rcases h with h|h
 · have:=M' (x2:=x2) (x1:=x1) (x0:=x0) (y1:=y1) (y0:=y0);omega
 · have h2:two (two x2 x1) x0/two y1 y0<q:=(Nat.div_lt_iff_lt_mul (by simp only[two];omega)).2 (X0 aM h)
   unfold l0
   generalize two (two x2 x1) x0/two y1 y0=d at*
   omega
theorem X2 {q r y1 y0 x2 x1 x0:Nat} (aN:y1≠0) (ae:x2<=y1) (X3:x1<4294967296) (j9:y0<4294967296) (aM:q*y1+r=two x2 x1) (p8:l0 x2 x1 x0 y1 y0<=q) (aR:4294967296<=r):q=l0 x2 x1 x0 y1 y0:=by
 have U:q*y1<4294967296*y1:=by
  have:x2*4294967296<=y1*4294967296:=Nat.mul_le_mul_right _ ae
  simp only[two] at aM
  rw[Nat.mul_comm 4294967296]
  omega
 have h2:q<4294967296:=Nat.lt_of_mul_lt_mul_right U
 refine Na aN aM p8 h2 ?_
 have aB:q*y0<=4294967295*4294967295:=Nat.mul_le_mul (by omega) (by omega)
 simp only[two]
 omega
theorem X4 {y1 x2 x1 x0 y0:Nat} (aN:y1≠0) (jh:x0<4294967296):l0 x2 x1 x0 y1 y0<=two x2 x1/y1:=by
 have a3:=Nat.div_add_mod (two x2 x1) y1
 have hm:=Nat.mod_lt (two x2 x1) (Nat.pos_of_ne_zero aN)
 have:two (two x2 x1) x0/two y1 y0<two x2 x1/y1+1:=by
  generalize two x2 x1=t at*
  rw[Nat.div_lt_iff_lt_mul (by simp only[two];omega)]
  generalize t/y1=q at*
  generalize t%y1=r at*
  subst a3
  simp only[two]
  have e:(q+1)*(y1*4294967296+y0)=q*y1*4294967296+y1*4294967296+(q+1)*y0:=by grind
  have av:(r+1)*4294967296<=y1*4294967296:=Nat.mul_le_mul_right _ hm
  rw[e,Nat.mul_comm y1 q]
  rw[Nat.add_mul] at av
  rw[Nat.add_mul]
  omega
 unfold l0;omega
end
section
set_option maxHeartbeats 8000000
open Go Go.Eng Go.RowKit
attribute [local simp] aU.m aU.o aU.n aU.g eZ ej cR cx cW evalOp.eq_1 evalOp.eq_2 evalOp.eq_3 evalOp.eq_4 evalOp.eq_5 evalOp.eq_6 evalOp.eq_7 evalOp.eq_8 evalOp.eq_9 evalOp.eq_10 evalOp.eq_11 evalOp.eq_12 evalOp.eq_13 evalOp.eq_14 evalOp.eq_15 evalOp.eq_16 evalOp.eq_17 evalOp.eq_18 evalOp.eq_19 evalOp.eq_20 evalOp.eq_21 evalOp.eq_22 evalOp.eq_23 evalOp.eq_24 evalOp.eq_25 evalOp.eq_27 evalOp.eq_28 evalOp.eq_29 h7 aT.ev cw au ah.new dM I.cells I.ca I.dK I.dQ ga gd gb gf gh gg hr hs ht fi fj cut partOf bound elems hx hy hz hA hB hC hD hE hF hG hH hI fs hJ hK hL hM hN hO hP hQ hR hS hT hU hV hW hX hY hZ h0 h1 h3 h4 h5 h6 ei ec dE eT gj fA ah.close ah.set fQ h8 h9 h_ hv fB e0 eJ dj eV fM fm eW fN fO fP eQ eR eS eP gk bj fK gl fL gm gn eH gp eI gq gr gu ff hq gv gw gx gy gz gA gB gC gD gE gF gG gH gI gJ gK gL gM gN fl gO gP gQ gR gS gT gU gV gW gX gY gZ g0 g1 g2
attribute [local simp high] hn ho hp g3 g4 g5 g6 g7 g8 g9 g_ g' ha hb hc hd hf hg hh hi hj hk hl
attribute [local simp] aD List.getElem?_cons_zero List.getElem?_cons_succ dp cB e5 Nat.mod_eq_of_lt ij ik il im e_ iq ir iu
section
attribute [local irreducible] ba
attribute [local simp] cY cI cm
noncomputable def Nb:FuncId->Option (List I->Option I):=cf [(266,z5)]
theorem Fe:∀f T,Nb f=some T->aH Tryz.prog G f T:=cg (by simp only[List.forall_mem_cons];exact ⟨Wg,fun _ h=>absurd h (by simp)⟩)
theorem X5:Nb 266=some z5:=rfl
attribute [local simp] X5
noncomputable def At:List I->Option I:=a9 (fun z:Nat × Nat × Nat=>z.1<z.2.2/\z.2.1<4294967296/\z.2.2<4294967296) (fun z=>[bq z.1,bq z.2.1,bq z.2.2]) (fun z=> .bL [bq (two z.1 z.2.1/z.2.2),bq (two z.1 z.2.1%z.2.2)])
theorem X6 (z:Nat × Nat × Nat) (h:z.1<z.2.2/\z.2.1<4294967296/\z.2.2<4294967296) {args:List I} (he:args.map I.loose= [bq z.1,bq z.2.1,bq z.2.2]):At args=some (.bL [bq (two z.1 z.2.1/z.2.2),bq (two z.1 z.2.1%z.2.2)]):=bk (fun z w h=>by simp only[List.cons.injEq,I.int.injEq,I.bool.injEq,I.sl.injEq,bX,bU,bS,b4,b2,bo,bE,bZ,bj,true_and,and_true] at h;simp[h]) z h he
theorem X7:aH Tryz.prog G 282 At:=by
 refine bf mixed Fe Lv fun z aq=>?_
 obtain⟨ab,cr,y⟩:=z
 obtain⟨U,h2,aB⟩:=aq
 simp only at U h2 aB|-
 obtain⟨R,eY,j7,b1,en⟩:=Fc (show ab<4294967296 by omega) h2
 obtain⟨d1,d2⟩:=M_ U h2 aB
 have aN:¬y=0:=by omega
 have xI:0<y:=by omega
 have d3:two ab cr/y<18446744073709551616:=by omega
 have d4:y<18446744073709551616:=by omega
 generalize two ab cr=w at*
 unfold i282
 refine aJ [0,1,2,6,7,8,15] fun F K=>?_
 obtain⟨f0,f1,f2,f6,f7,f8,f15⟩:=K
 have H:=kL U aN xI eY j7 b1 en d1 d2 d3 d4
 have K:=de f0 f1 f2 f6 f7 f8 f15;clear f0 f1 f2 f6 f7 f8 f15
 exact a4 [0,1,2,6,7,8,15]
noncomputable def Au:List I->Option I:=a9 (fun z:Nat=>z<4294967296) (fun z=>[bq z]) (fun z=>aK (32 - dZ z))
theorem X8 (z:Nat) (h:z<4294967296) {args:List I} (he:args.map I.loose= [bq z]):Au args=some (aK (32 - dZ z)):=bk (fun z w h=>by simp only[List.cons.injEq,I.int.injEq,I.bool.injEq,I.sl.injEq,bX,bU,bS,b4,b2,bo,bE,bZ,bj,true_and,and_true] at h;simp[h]) z h he
theorem X9:aH Tryz.prog G 260 Au:=by
 refine bf mixed Fe Lm fun n ai=>?_
 have t:=Wf (n:=n) ai
 have ad:dZ n<=32:=px.2 ai
 have hw:IntKind.i64.wrap (Z 32 - Z (dZ n))=Z (32 - dZ n):=cB ad (by decide)
 unfold i260
 refine aJ [0,2] fun F K=>?_
 obtain⟨f0,f2⟩:=K
 have H:=bs t hw
 have K:=bs f0 f2;clear f0 f2
 exact a4 [0,2]
noncomputable def vo:List I->Option I:=a9 (fun z:Nat × Nat × Nat × Nat × Nat=>z.1<=z.2.2.2.1/\z.2.1<4294967296/\z.2.2.1<4294967296/\z.2.2.2.1<4294967296/\z.2.2.2.2<4294967296/\z.2.2.2.1≠0) (fun z=>[bq z.1,bq z.2.1,bq z.2.2.1,bq z.2.2.2.1,bq z.2.2.2.2]) (fun z=>fu (l0 z.1 z.2.1 z.2.2.1 z.2.2.2.1 z.2.2.2.2))
theorem X_ (z:Nat × Nat × Nat × Nat × Nat) (h:z.1<=z.2.2.2.1/\z.2.1<4294967296/\z.2.2.1<4294967296/\z.2.2.2.1<4294967296/\z.2.2.2.2<4294967296/\z.2.2.2.1≠0) {args:List I} (he:args.map I.loose= [bq z.1,bq z.2.1,bq z.2.2.1,bq z.2.2.2.1,bq z.2.2.2.2]):vo args=some (fu (l0 z.1 z.2.1 z.2.2.1 z.2.2.2.1 z.2.2.2.2)):=bk (fun z w h=>by simp only[List.cons.injEq,I.int.injEq,I.bool.injEq,I.sl.injEq,bX,bU,bS,b4,b2,bo,bE,bZ,bj,true_and,and_true] at h;simp[h]) z h he
theorem X':aH Tryz.prog G 261 vo:=by
 refine bf mixed Fe Ln fun z aq=>?_
 obtain⟨x2,x1,x0,y1,y0⟩:=z
 obtain⟨h2,U,p',bp,jb,aN⟩:=aq
 simp only at h2 U p' bp jb aN|-
 obtain⟨R,eY,j7,b1,en⟩:=Fc (show x2<4294967296 by omega) U
 have Ya:=X4 (x2:=x2) (x1:=x1) (y0:=y0) aN p'
 have gs:=fun q r=>Na (q:=q) (r:=r) (x2:=x2) (x1:=x1) (x0:=x0) (y0:=y0) aN
 have Yb:=fun q r=>X1 (q:=q) (r:=r) (x2:=x2) (x1:=x1) (x0:=x0) (y0:=y0) aN
 have pD:=fun q r=>X2 (q:=q) (r:=r) (x2:=x2) (x1:=x1) (x0:=x0) (y0:=y0) aN h2 U jb
 generalize l0 x2 x1 x0 y1 y0=Nc at*
 generalize two x2 x1=w at*
 have xI:0<y1:=by omega
 have d4:y1<18446744073709551616:=by omega
 have vc:=Nat.div_le_self w y1
 have Nd:=Nat.mod_lt w xI
 have Yc:=Nat.div_add_mod w y1
 have d5:w/y1<18446744073709551616:=by omega
 unfold i261
 refine aJ [0,1,2,3,4,10,11,12,13,41,49] fun F K=>?_
 obtain⟨f0,f1,f2,f3,f4,f10,f11,f12,f13,f41,f49⟩:=K
 have H:=er aN xI eY j7 b1 en d4 d5
 have K:=kL f0 f1 f2 f3 f4 f10 f11 f12 f13 f41 f49;clear f0 f1 f2 f3 f4 f10 f11 f12 f13 f41 f49
 refine bB [0,1,2,3,4,10,11,12,13,41,49] fun F k=>?_;clear K H
 obtain⟨f0,f1,f2,f3,f4,f10,f11,f12,f13,f41,f49⟩:=k
 refine mY (fun q s=>∃r,q*y1+r=w/\Nc<=q/\r<4294967296/\s.F 12=fu q/\s.F 13=fu r) (fun s=>s.F 12=fu Nc) (fun _=>False) (w/y1) ?_ ?_ ?_ (fun _ _ h=>h.elim)
 · exact ⟨w%y1,by rw[Nat.mul_comm];exact Yc,Ya,by omega,f12,f13⟩
 · clear eY j7 b1
   rintro q s ag ⟨r,aM,p8,aR,l1,xJ⟩
   replace f2:=(ag 2 rfl).trans f2;replace f3:=(ag 3 rfl).trans f3;replace f4:=(ag 4 rfl).trans f4
   clear f12 f13
   have f12:=l1
   have f13:=xJ
   obtain⟨ajB,Ff,du,kX,Fg⟩:=Fc aR p'
   have ajC:q<18446744073709551616:=by
    have:q*1<=q*y1:=Nat.mul_le_mul_left q xI
    omega
   have Fh:y0<18446744073709551616:=by omega
   have s1:=gs q r aM p8
   have s2:=Yb q r aM
   generalize two r x0=v at*
   have main:(q<4294967296/\q*y0<=v)\/(4294967296<=q\/(q<4294967296/\v<q*y0)):=by omega
   have Fi:q<4294967296->q*y0<18446744073709551616:=fun h=>by
    have:q*y0<=4294967295*4294967295:=Nat.mul_le_mul (by omega) (by omega)
    omega
   have K:=bx f2 f3 f4 f12 f13;clear f2 f3 f4 f12 f13
   refine bO [2,3,4,12,13,41,49] fun F k=>?_;clear K
   obtain⟨f2,f3,f4,f12,f13,f41,f49⟩:=k
   rcases main with⟨cS,dA⟩|main
   · have e:=s1 cS dA
     have xK:=Fi cS
     generalize xL:q*y0=Nf at*
     have H:=ia Ff du kX Fg xL cS dA xK Fh
     have K:=de f2 f3 f4 f12 f13 f41 f49;clear f2 f3 f4 f12 f13 f41 f49
     refine bB [2,3,4,12,13,41,49] fun F k=>?_;clear K H
     obtain⟨f2,f3,f4,f12,f13,f41,f49⟩:=k
     first|exact e|(rw[f12,e])
   · obtain⟨jg,mC⟩:=s2 (by omega)
     have ao:(q+18446744073709551615)%18446744073709551616=q - 1:=by omega
     have av:r+y1<18446744073709551616:=by omega
     have kY:(q - 1)*y1+(r+y1)=w:=by
      rw[<-aM]
      obtain⟨p,rfl⟩:∃p,q=p+1:=⟨q - 1,by omega⟩
      rw[Nat.add_sub_cancel,Nat.add_mul];omega
     by_cases xM:4294967296<=r+y1
     · have e:=pD (q - 1) (r+y1) kY jg xM
       rcases main with cS|⟨cS,dA⟩
       · skip
         have H:=bx cS ao av xM d4
         have K:=de f2 f3 f4 f12 f13 f41 f49;clear f2 f3 f4 f12 f13 f41 f49
         refine bB [2,3,4,12,13,41,49] fun F k=>?_;clear K H
         obtain⟨f2,f3,f4,f12,f13,f41,f49⟩:=k
         first|exact e|(rw[f12,e])
       · have xK:=Fi cS
         generalize xL:q*y0=Nf at*
         have H:=kM Ff du kX Fg xL cS dA xK Fh ao av xM d4
         have K:=de f2 f3 f4 f12 f13 f41 f49;clear f2 f3 f4 f12 f13 f41 f49
         refine bB [2,3,4,12,13,41,49] fun F k=>?_;clear K H
         obtain⟨f2,f3,f4,f12,f13,f41,f49⟩:=k
         first|exact e|(rw[f12,e])
     · rcases main with cS|⟨cS,dA⟩
       · skip
         have H:=bx cS ao av xM d4
         have K:=de f2 f3 f4 f12 f13 f41 f49;clear f2 f3 f4 f12 f13 f41 f49
         refine bB [2,3,4,12,13,41,49] fun F k=>?_;clear K H
         obtain⟨f2,f3,f4,f12,f13,f41,f49⟩:=k
         exact ⟨q - 1,by omega,r+y1,kY,jg,by omega,by first|rfl|exact f12,by first|rfl|exact f13⟩
       · have xK:=Fi cS
         generalize xL:q*y0=Nf at*
         have H:=kM Ff du kX Fg xL cS dA xK Fh ao av xM d4
         have K:=de f2 f3 f4 f12 f13 f41 f49;clear f2 f3 f4 f12 f13 f41 f49
         refine bB [2,3,4,12,13,41,49] fun F k=>?_;clear K H
         obtain⟨f2,f3,f4,f12,f13,f41,f49⟩:=k
         exact ⟨q - 1,by omega,r+y1,kY,jg,by omega,by first|rfl|exact f12,by first|rfl|exact f13⟩
 · rintro s ag l1
   clear f12 f13
   have f12:=l1
   have K:=f12;clear f12
   refine bO [10,12] fun F k=>?_;clear K
   obtain⟨f10,f12⟩:=k
   have H:=trivial
   have K:=bs f10 f12;clear f10 f12
   exact a4 [10,12]
end
end
end Go.Proofs.YtemiagcencajeaaGreatDoor
