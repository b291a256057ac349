/- What the claim needs of the walks, put together by a program (shake.py). -/
import Derived.Test.YtemiagcencajeaaGreatDoorXdD
set_option maxRecDepth 100000
set_option linter.unusedSimpArgs false
set_option linter.unusedVariables false
set_option linter.unusedSectionVars false
namespace Go.Proofs.YtemiagcencajeaaGreatDoor
section
set_option maxHeartbeats 8000000
open Go Go.Eng Go.RowKit
attribute [local simp] aU.m aU.o aU.n aU.g e7 ew cT cB cX evalOp.eq_1 evalOp.eq_2 evalOp.eq_3 evalOp.eq_4 evalOp.eq_5 evalOp.eq_6 evalOp.eq_7 evalOp.eq_8 evalOp.eq_9 evalOp.eq_10 evalOp.eq_11 evalOp.eq_12 evalOp.eq_13 evalOp.eq_14 evalOp.eq_15 evalOp.eq_16 evalOp.eq_17 evalOp.eq_18 evalOp.eq_19 evalOp.eq_20 evalOp.eq_21 evalOp.eq_22 evalOp.eq_23 evalOp.eq_24 evalOp.eq_25 evalOp.eq_27 evalOp.eq_28 evalOp.eq_29 ig aS.ev cA au ah.new dQ I.cells I.cd I.dP I.ea gl gn gm gp gr gq hB hC hD fw fx cut partOf bound elems hF hG hH hI hJ hK hL hM hN hO hP hQ fF hR hS hT hU hV hW hX hY hZ h0 h1 h3 h4 h5 h6 h7 h8 h9 h_ ia ib ic ie eu eh dJ eY gu fM ah.close ah.set gf ih ij ik hE fN e8 eS dt e1 f' ft e2 ga gb gd eV eW eX eU gv bj fZ gw f_ gx gy eQ gz eR gA gB gC fs hA gD gE gF gG gH gI gJ gK gL gM gN gO gP gQ gR gS gT gU gV fz gW gX gY gZ g0 g1 g2 g3 g4 g5 g6 g7 g8 g9 g_
attribute [local simp high] hx hy hz g' ha hb hc hd hf hg hh hi hj hk hl hn ho hp hq hr hs ht hv
attribute [local simp] aG List.getElem?_cons_zero List.getElem?_cons_succ dw cM fe Nat.mod_eq_of_lt iw ix iy iz fk iA iB iC
section
attribute [local irreducible] ba
attribute [local simp] cW cI ct
def fp (z:Int):Int:=if z=0 then 0 else if z<0 then -1 else 1
theorem lD {a:Int} {k:Nat}:aE a<=k↔a.natAbs<al k:=cE
theorem tj (a:Int):aE (-a)=aE a:=by simp[aE]
theorem oN (a b:Int):aE (a+b)<=max (aE a) (aE b)+1:=by
 have U:(a+b).natAbs<=a.natAbs+b.natAbs:=Int.natAbs_add_le a b
 have h2:=kA a.natAbs b.natAbs
 have aA:=gh U
 simp only[aE] at*;omega
theorem W5 (a b:Int):aE (a - b)<=max (aE a) (aE b)+1:=by
 have:=oN a (-b)
 rw[tj] at this
 rwa [Int.sub_eq_add_neg]
theorem iR (a b:Int):aE (a*b)<=aE a+aE b:=by
 have:=kV a.natAbs b.natAbs
 rwa [<-Int.natAbs_mul] at this
theorem Ap (b:Bool) (n:Nat):aE (c8 b n)=(aa n).length:=by rw[aE,ET]
noncomputable def ML:FuncId->Option (List I->Option I):=cf [(170,kW)]
theorem W6:∀f T,ML f=some T->aH Tryz.prog G f T:=cg (by simp only[List.forall_mem_cons];exact ⟨qu,fun _ h=>absurd h (by simp)⟩)
theorem W7:ML 170=some kW:=rfl
attribute [local simp] W7
noncomputable def nG:List I->Option I:=a9 (fun z:Bool × List Nat=>Small z.2/\z.2.length<=1073741824) (fun z=>[.bool z.1,b6 z.2 false]) (fun z=>ai (c8 z.1 (val z.2)))
theorem W8 (z:Bool × List Nat) (h:Small z.2/\z.2.length<=1073741824) {args:List I} (he:args.map I.loose= [.bool z.1,b6 z.2 false]):nG args=some (ai (c8 z.1 (val z.2))):=bk (fun z w h=>by simp only[List.cons.injEq,I.int.injEq,I.bool.injEq,I.sl.injEq,bX,bW,bU,b4,bZ,bq,bE,bY,bj,true_and,and_true] at h;simp[h]) z h he
theorem xI:aH Tryz.prog G 84 nG:=by
 refine bg mixed W6 Kn fun z ar=>?_
 obtain⟨b,l⟩:=z
 obtain⟨ax,az⟩:=ar
 simp only at ax az|-
 have t:=pA (e:=false) ax az
 have bL:=Aj b (val l)
 have cq:=ET b (val l)
 unfold i84
 by_cases an:val l=0
 · have ak:aa (val l)= []:=jJ.2 an
   have a3:decide (val l≠0)=false:=decide_eq_false (fun h=>h an)
   rw[a3] at bL
   cases b
   · skip
     refine aK [0,1,4,5] fun F K=>?_
     obtain⟨f0,f1,f4,f5⟩:=K
     have H:=bw t ak
     have K:=bM f0 f1 f4 f5;clear f0 f1 f4 f5
     repeat' (first|refine dT ?_|refine dU ?_|((first|refine eK ?_|refine eL ?_|refine eM ?_|exact dW|refine dV ?_);try(refine eA [0,1,4,5] fun F k=>?_;replace K:=k;clear k))|(refine dX (fun J=>?_) (fun J=>?_)<;>first|(exfalso;simp(disch:=omega) [H] at J;done)|(exfalso;simp at J;omega)|simp at J)|((first|refine b5 ?_|refine c_ ?_);simp(disch:=omega) [H,K,bL,cq])|exact trivial)
     all_goals obtain⟨f0,f1,f4,f5⟩:=K
   · skip
     refine aK [0,1,4,5] fun F K=>?_
     obtain⟨f0,f1,f4,f5⟩:=K
     have H:=bw t ak
     have K:=bM f0 f1 f4 f5;clear f0 f1 f4 f5
     repeat' (first|refine dT ?_|refine dU ?_|((first|refine eK ?_|refine eL ?_|refine eM ?_|exact dW|refine dV ?_);try(refine eA [0,1,4,5] fun F k=>?_;replace K:=k;clear k))|(refine dX (fun J=>?_) (fun J=>?_)<;>first|(exfalso;simp(disch:=omega) [H] at J;done)|(exfalso;simp at J;omega)|simp at J)|((first|refine b5 ?_|refine c_ ?_);simp(disch:=omega) [H,K,bL,cq])|exact trivial)
     all_goals obtain⟨f0,f1,f4,f5⟩:=K
 · have ak:0<(aa (val l)).length:=lV.2 an
   have jt:¬aa (val l)= []:=fun h=>an (jJ.1 h)
   have a3:decide (val l≠0)=true:=decide_eq_true an
   rw[a3] at bL
   cases b
   · skip
     refine aK [0,1,4,5] fun F K=>?_
     obtain⟨f0,f1,f4,f5⟩:=K
     have H:=bw t ak
     have K:=bM f0 f1 f4 f5;clear f0 f1 f4 f5
     repeat' (first|refine dT ?_|refine dU ?_|((first|refine eK ?_|refine eL ?_|refine eM ?_|exact dW|refine dV ?_);try(refine eA [0,1,4,5] fun F k=>?_;replace K:=k;clear k))|(refine dX (fun J=>?_) (fun J=>?_)<;>first|(exfalso;simp(disch:=omega) [H] at J;done)|(exfalso;simp at J;omega)|simp at J)|((first|refine b5 ?_|refine c_ ?_);simp(disch:=omega) [H,K,bL,cq])|exact trivial)
     all_goals obtain⟨f0,f1,f4,f5⟩:=K
   · skip
     refine aK [0,1,4,5] fun F K=>?_
     obtain⟨f0,f1,f4,f5⟩:=K
     have H:=b3 t ak jt
     have K:=bM f0 f1 f4 f5;clear f0 f1 f4 f5
     repeat' (first|refine dT ?_|refine dU ?_|((first|refine eK ?_|refine eL ?_|refine eM ?_|exact dW|refine dV ?_);try(refine eA [0,1,4,5] fun F k=>?_;replace K:=k;clear k))|(refine dX (fun J=>?_) (fun J=>?_)<;>first|(exfalso;simp(disch:=omega) [H] at J;done)|(exfalso;simp at J;omega)|simp at J)|((first|refine b5 ?_|refine c_ ?_);simp(disch:=omega) [H,K,bL,cq])|exact trivial)
     all_goals obtain⟨f0,f1,f4,f5⟩:=K
theorem m8 {b:Bool} {n:Nat} (h:(aa n).length<=1073741824):nG [.bool b,af n]=some (ai (c8 b n)):=by
 rw[W8 (b,aa n) ⟨dD n,h⟩ (by simp),ct]
noncomputable def tk:FuncId->Option (List I->Option I):=cf [(84,nG),(180,Ao),(171,n8),(174,jZ),(185,pD),(209,E0)]
theorem xJ:∀f T,tk f=some T->aH Tryz.prog G f T:=cg (by simp only[List.forall_mem_cons];exact ⟨xI,W3,xz,ve,Ah,W4,fun _ h=>absurd h (by simp)⟩)
theorem W9:tk 84=some nG:=rfl
theorem W_:tk 180=some Ao:=rfl
theorem W':tk 171=some n8:=rfl
theorem Xa:tk 174=some jZ:=rfl
theorem Xb:tk 185=some pD:=rfl
theorem Xc:tk 209=some E0:=rfl
attribute [local simp] W9 W_ W' Xa Xb Xc
noncomputable def n9:List I->Option I:=a9 (fun z:Int=> -9223372036854775808<=z/\z<9223372036854775808) (fun z=>[.int .i64 z]) (fun z=>ai z)
theorem MM (z:Int) (h: -9223372036854775808<=z/\z<9223372036854775808) {args:List I} (he:args.map I.loose= [.int .i64 z]):n9 args=some (ai z):=bk (fun z w h=>by simp only[List.cons.injEq,I.int.injEq,I.bool.injEq,I.sl.injEq,bX,bW,bU,b4,bZ,bq,bE,bY,bj,true_and,and_true] at h;simp[h]) z h he
theorem xK:aH Tryz.prog G 110 n9:=by
 refine bg mixed xJ KC fun z ar=>?_
 unfold i110
 have az:∀n,n<18446744073709551616->(aa n).length<=2:=fun n h=>cE.2 (by simp only[er,fG];omega)
 by_cases aG:z<0
 · obtain⟨n,ak⟩:∃n:Nat,z= -(n:Int):=⟨z.natAbs,by omega⟩
   have t1:=MK n (by omega) (args:=[fB n]) (by simp)
   have t2:=m8 (b:=true) (n:=n) (by have:=az n (by omega);omega)
   rw[show c8 true n=z by simp[c8,ak]] at t2
   have aq:IntKind.i64.wrap (z+Z 1)=z+1:=wrap_i64 (by simp only[Z];omega) (by simp only[Z];omega)
   have av:IntKind.i64.wrap (-(z+1))=Z (n - 1):=by rw[wrap_i64 (by omega) (by omega)];simp only[Z];omega
   have aW:n - 1+1=n:=by omega
   have bT:n<18446744073709551616:=by omega
   have fj:n - 1<18446744073709551616:=by omega
   have lz:(z<Z 0)=True:=eq_true aG
   refine aK [0,2,4] fun F K=>?_
   obtain⟨f0,f2,f4⟩:=K
   have H:=e9 t1 t2 aq av aW bT fj lz
   have K:=b3 f0 f2 f4;clear f0 f2 f4
   exact a7 [0,2,4]
 · obtain⟨n,ak⟩:∃n:Nat,z=n:=⟨z.natAbs,by omega⟩
   have t1:=MK n (by omega) (args:=[fB n]) (by simp)
   have t2:=m8 (b:=false) (n:=n) (by have:=az n (by omega);omega)
   rw[show c8 false n=z by simp[c8,ak]] at t2
   have bT:IntKind.u64.wrap z=Z n:=by
    have:=fz n
    rw[ak];simp only[Z] at this|-;rw[this,Nat.mod_eq_of_lt (by omega)]
   have lz:(z<Z 0)=False:=eq_false aG
   refine aK [0,2,4] fun F K=>?_
   obtain⟨f0,f2,f4⟩:=K
   have H:=bM t1 t2 bT lz
   have K:=b3 f0 f2 f4;clear f0 f2 f4
   exact a7 [0,2,4]
noncomputable def l':List I->Option I:=a9 (fun z:Int=>True) (fun z=>[ai z]) (fun z=> .int .i64 (fp z))
theorem xL (z:Int) (h:True) {args:List I} (he:args.map I.loose= [ai z]):l' args=some (.int .i64 (fp z)):=bk (fun z w h=>by simp only[List.cons.injEq,I.int.injEq,I.bool.injEq,I.sl.injEq,bX,bW,bU,b4,bZ,bq,bE,bY,bj,true_and,and_true] at h;simp[h]) z h he
theorem tl:aH Tryz.prog G 87 l':=by
 refine bg mixed xJ Kp fun z _=>?_
 unfold i87
 by_cases aG:z=0
 · subst aG
   have dB:aa 0= []:=eT
   have dA:a8 0=false:=rfl
   have e:fp 0=Z 0:=rfl
   refine aK [0,1,2,3,8] fun F K=>?_
   obtain⟨f0,f1,f2,f3,f8⟩:=K
   have H:=bw dB dA
   have K:=bx f0 f1 f2 f3 f8;clear f0 f1 f2 f3 f8
   repeat' (first|refine dT ?_|refine dU ?_|((first|refine eK ?_|refine eL ?_|refine eM ?_|exact dW|refine dV ?_);try(refine eA [0,1,2,3,8] fun F k=>?_;replace K:=k;clear k))|(refine dX (fun J=>?_) (fun J=>?_)<;>first|(exfalso;simp(disch:=omega) [H] at J;done)|(exfalso;simp at J;omega)|simp at J)|((first|refine b5 ?_|refine c_ ?_);simp(disch:=omega) [H,K,e])|exact trivial)
   all_goals obtain⟨f0,f1,f2,f3,f8⟩:=K
 · have ak:¬aa z.natAbs= []:=fun h=>aG (by have:=jJ.1 h;omega)
   have jt:¬(aa z.natAbs).length=0:=fun h=>ak (List.length_eq_zero_iff.1 h)
   by_cases U:z<0
   · have e:fp z= -1:=by simp[fp,aG,U]
     have ar:a8 z=true:=by simp[a8,U]
     refine aK [0,1,2,3,8] fun F K=>?_
     obtain⟨f0,f1,f2,f3,f8⟩:=K
     have H:=b3 ak jt ar
     have K:=bx f0 f1 f2 f3 f8;clear f0 f1 f2 f3 f8
     repeat' (first|refine dT ?_|refine dU ?_|((first|refine eK ?_|refine eL ?_|refine eM ?_|exact dW|refine dV ?_);try(refine eA [0,1,2,3,8] fun F k=>?_;replace K:=k;clear k))|(refine dX (fun J=>?_) (fun J=>?_)<;>first|(exfalso;simp(disch:=omega) [H] at J;done)|(exfalso;simp at J;omega)|simp at J)|((first|refine b5 ?_|refine c_ ?_);simp(disch:=omega) [H,K,e])|exact trivial)
     all_goals obtain⟨f0,f1,f2,f3,f8⟩:=K
   · have e:fp z=1:=by simp[fp,aG,U]
     have ar:a8 z=false:=by simp[a8,U]
     refine aK [0,1,2,3,8] fun F K=>?_
     obtain⟨f0,f1,f2,f3,f8⟩:=K
     have H:=b3 ak jt ar
     have K:=bx f0 f1 f2 f3 f8;clear f0 f1 f2 f3 f8
     repeat' (first|refine dT ?_|refine dU ?_|((first|refine eK ?_|refine eL ?_|refine eM ?_|exact dW|refine dV ?_);try(refine eA [0,1,2,3,8] fun F k=>?_;replace K:=k;clear k))|(refine dX (fun J=>?_) (fun J=>?_)<;>first|(exfalso;simp(disch:=omega) [H] at J;done)|(exfalso;simp at J;omega)|simp at J)|((first|refine b5 ?_|refine c_ ?_);simp(disch:=omega) [H,K,e])|exact trivial)
     all_goals obtain⟨f0,f1,f2,f3,f8⟩:=K
noncomputable def m9:List I->Option I:=a9 (fun z:Int=>aE z<=100000000) (fun z=>[ai z]) (fun z=>ai (-z))
theorem xM (z:Int) (h:aE z<=100000000) {args:List I} (he:args.map I.loose= [ai z]):m9 args=some (ai (-z)):=bk (fun z w h=>by simp only[List.cons.injEq,I.int.injEq,I.bool.injEq,I.sl.injEq,bX,bW,bU,b4,bZ,bq,bE,bY,bj,true_and,and_true] at h;simp[h]) z h he
theorem vi:aH Tryz.prog G 90 m9:=by
 refine bg mixed xJ Kq fun z ar=>?_
 simp only[aE] at ar
 have t:=m8 (b:=!a8 z) (n:=z.natAbs) (by omega)
 rw[show c8 (!a8 z) z.natAbs= -z by simp only[c8,a8,Bool.not_eq_true',decide_eq_false_iff_not];split<;>omega] at t
 unfold i90
 generalize a5:a8 z=s at*
 generalize iN:z.natAbs=n at*
 generalize -z=w at*
 refine aK [0,1,2] fun F K=>?_
 obtain⟨f0,f1,f2⟩:=K
 have H:=b3 a5 iN t
 have K:=b3 f0 f1 f2;clear f0 f1 f2
 exact a7 [0,1,2]
def ju (a b:Int):Int:=if a<b then -1 else if b<a then 1 else 0
noncomputable def xN:List I->Option I:=a9 (fun z:Int × Int=>aE z.1<=100000000/\aE z.2<=100000000) (fun z=>[ai z.1,ai z.2]) (fun z=> .int .i64 (ju z.1 z.2))
theorem MN:aH Tryz.prog G 85 xN:=by
 refine bg mixed xJ UA fun z ar=>?_
 obtain⟨a,b⟩:=z
 obtain⟨aC,ad⟩:=ar
 simp only[aE] at aC ad|-
 have t1:=tb (a:=a.natAbs) (b:=b.natAbs) (e:=false) (e':=false) (by omega) (by omega)
 have t2:=tb (a:=b.natAbs) (b:=a.natAbs) (e:=false) (e':=false) (by omega) (by omega)
 unfold i85
 by_cases U:a<0<;>by_cases h2:b<0
 all_goals have dA:a8 a=decide (a<0):=rfl
 all_goals have fW:a8 b=decide (b<0):=rfl
 all_goals simp only[U,h2,decide_true,decide_false] at dA fW
 · have e:dy b.natAbs a.natAbs=ju a b:=by simp only[dy,ju];split<;>split<;>first|rfl|omega|(split<;>first|rfl|omega)
   refine aK [0,1,2,3,4,5,17,20] fun F K=>?_
   obtain⟨f0,f1,f2,f3,f4,f5,f17,f20⟩:=K
   have H:=bx t1 t2 dA fW e
   have K:=e9 f0 f1 f2 f3 f4 f5 f17 f20;clear f0 f1 f2 f3 f4 f5 f17 f20
   exact a7 [0,1,2,3,4,5,17,20]
 · have e:ju a b= -1:=by simp only[ju];rw[if_pos (by omega)]
   refine aK [0,1,2,3,4,5,17,20] fun F K=>?_
   obtain⟨f0,f1,f2,f3,f4,f5,f17,f20⟩:=K
   have H:=b3 dA fW e
   have K:=e9 f0 f1 f2 f3 f4 f5 f17 f20;clear f0 f1 f2 f3 f4 f5 f17 f20
   exact a7 [0,1,2,3,4,5,17,20]
 · have e:ju a b=1:=by simp only[ju];rw[if_neg (by omega),if_pos (by omega)]
   refine aK [0,1,2,3,4,5,17,20] fun F K=>?_
   obtain⟨f0,f1,f2,f3,f4,f5,f17,f20⟩:=K
   have H:=b3 dA fW e
   have K:=e9 f0 f1 f2 f3 f4 f5 f17 f20;clear f0 f1 f2 f3 f4 f5 f17 f20
   exact a7 [0,1,2,3,4,5,17,20]
 · have e:dy a.natAbs b.natAbs=ju a b:=by simp only[dy,ju];split<;>split<;>first|rfl|omega|(split<;>first|rfl|omega)
   refine aK [0,1,2,3,4,5,17,20] fun F K=>?_
   obtain⟨f0,f1,f2,f3,f4,f5,f17,f20⟩:=K
   have H:=bx t1 t2 dA fW e
   have K:=e9 f0 f1 f2 f3 f4 f5 f17 f20;clear f0 f1 f2 f3 f4 f5 f17 f20
   exact a7 [0,1,2,3,4,5,17,20]
noncomputable def lg:List I->Option I:=a9 (fun z:Int × Int=>aE z.1<=10000000/\aE z.2<=10000000) (fun z=>[ai z.1,ai z.2]) (fun z=>ai (z.1+z.2))
theorem vj (z:Int × Int) (h:aE z.1<=10000000/\aE z.2<=10000000) {args:List I} (he:args.map I.loose= [ai z.1,ai z.2]):lg args=some (ai (z.1+z.2)):=bk (fun z w h=>by simp only[List.cons.injEq,I.int.injEq,I.bool.injEq,I.sl.injEq,bX,bW,bU,b4,bZ,bq,bE,bY,bj,true_and,and_true] at h;simp[h]) z h he
theorem rK:aH Tryz.prog G 119 lg:=by
 refine bg mixed xJ KH fun z ar=>?_
 obtain⟨a,b⟩:=z
 obtain⟨aC,ad⟩:=ar
 simp only[aE] at aC ad|-
 have Xd:((-1:Int)<Z 0)=True:=eq_true (by decide)
 unfold i119
 by_cases ax:a8 a=a8 b
 · have t1:=nE (a:=a.natAbs) (b:=b.natAbs) (e:=false) (e':=false) (by omega) (by omega)
   have az:=kA a.natAbs b.natAbs
   have t2:=m8 (b:=a8 a) (n:=a.natAbs+b.natAbs) (by omega)
   rw[MC ax] at t2
   generalize a5:a8 a=uJ at*
   generalize bB:a8 b=uK at*
   subst ax
   refine aK [0,1,2,3,4,5,11,25] fun F K=>?_
   obtain⟨f0,f1,f2,f3,f4,f5,f11,f25⟩:=K
   have H:=bM a5 bB t1 t2
   have K:=e9 f0 f1 f2 f3 f4 f5 f11 f25;clear f0 f1 f2 f3 f4 f5 f11 f25
   exact a7 [0,1,2,3,4,5,11,25]
 · have lx:(a8 a == a8 b)=false:=by simpa using ax
   have t0:=tb (a:=a.natAbs) (b:=b.natAbs) (e:=false) (e':=false) (by omega) (by omega)
   by_cases bF:a.natAbs<b.natAbs
   · have J:dy a.natAbs b.natAbs= -1:=by simp[dy,bF]
     rw[J] at t0
     have t2:=xE (a:=b.natAbs) (b:=a.natAbs) (e:=false) (e':=false) (by omega) (by omega)
     rw[if_neg (by omega)] at t2
     have t3:=m8 (b:=a8 b) (n:=b.natAbs - a.natAbs) (Nat.le_trans (gh (Nat.sub_le _ _)) (by omega))
     rw[ME ax bF] at t3
     generalize a5:a8 a=uJ at*
     generalize bB:a8 b=uK at*
     refine aK [0,1,2,3,4,5,11,25] fun F K=>?_
     obtain⟨f0,f1,f2,f3,f4,f5,f11,f25⟩:=K
     have H:=dh a5 bB lx Xd t0 t2 t3
     have K:=e9 f0 f1 f2 f3 f4 f5 f11 f25;clear f0 f1 f2 f3 f4 f5 f11 f25
     exact a7 [0,1,2,3,4,5,11,25]
   · have m6:(dy a.natAbs b.natAbs<Z 0)=False:=eq_false (by simp only[dy];rw[if_neg bF];split<;>decide)
     have t2:=xE (a:=a.natAbs) (b:=b.natAbs) (e:=false) (e':=false) (by omega) (by omega)
     rw[if_neg bF] at t2
     have t3:=m8 (b:=a8 a) (n:=a.natAbs - b.natAbs) (Nat.le_trans (gh (Nat.sub_le _ _)) (by omega))
     rw[MD ax bF] at t3
     generalize dy a.natAbs b.natAbs=xF at*
     generalize a5:a8 a=uJ at*
     generalize bB:a8 b=uK at*
     refine aK [0,1,2,3,4,5,11,25] fun F K=>?_
     obtain⟨f0,f1,f2,f3,f4,f5,f11,f25⟩:=K
     have H:=dh a5 bB lx m6 t0 t2 t3
     have K:=e9 f0 f1 f2 f3 f4 f5 f11 f25;clear f0 f1 f2 f3 f4 f5 f11 f25
     exact a7 [0,1,2,3,4,5,11,25]
noncomputable def E1:FuncId->Option (List I->Option I):=cf [(119,lg),(90,m9)]
theorem Xe:∀f T,E1 f=some T->aH Tryz.prog G f T:=cg (by simp only[List.forall_mem_cons];exact ⟨rK,vi,fun _ h=>absurd h (by simp)⟩)
theorem Xf:E1 119=some lg:=rfl
theorem Xg:E1 90=some m9:=rfl
attribute [local simp] Xf Xg
noncomputable def qx:List I->Option I:=a9 (fun z:Int × Int=>aE z.1<=10000000/\aE z.2<=10000000) (fun z=>[ai z.1,ai z.2]) (fun z=>ai (z.1 - z.2))
theorem Xh (z:Int × Int) (h:aE z.1<=10000000/\aE z.2<=10000000) {args:List I} (he:args.map I.loose= [ai z.1,ai z.2]):qx args=some (ai (z.1 - z.2)):=bk (fun z w h=>by simp only[List.cons.injEq,I.int.injEq,I.bool.injEq,I.sl.injEq,bX,bW,bU,b4,bZ,bq,bE,bY,bj,true_and,and_true] at h;simp[h]) z h he
theorem E2:aH Tryz.prog G 143 qx:=by
 refine bg mixed Xe KO fun z ar=>?_
 obtain⟨a,b⟩:=z
 obtain⟨aC,ad⟩:=ar
 simp only at aC ad|-
 have t1:=xM b (by omega) (args:=[ai b]) (by simp)
 have t2:=vj (a,-b) ⟨aC,by rw[tj];exact ad⟩ (args:=[ai a,ai (-b)]) (by simp)
 rw[<-Int.sub_eq_add_neg] at t2
 unfold i143
 generalize -b=c at*
 generalize a - b=d at*
 refine aK [0,1,2,3,4] fun F K=>?_
 obtain⟨f0,f1,f2,f3,f4⟩:=K
 have H:=bw t1 t2
 have K:=bx f0 f1 f2 f3 f4;clear f0 f1 f2 f3 f4
 exact a7 [0,1,2,3,4]
end
section
attribute [local irreducible] ba
attribute [local simp] cW cI ct z1 z2 z3
theorem MO {x y:Nat} (ae:x<4294967296) (aQ:y<4294967296):x*y<=18446744065119617025:=Nat.mul_le_mul (show x<=4294967295 by omega) (show y<=4294967295 by omega)
theorem MP {V fR P cQ B E3 x r q rL gk c R u:Nat} (U:fR+P*cQ*E3=V+P*cQ*r) (ae:x=rL*gk+E3+c) (a3:x=B*q+r) (h:V+P*cQ*c=R+P*(rL*u)):
 fR+P*cQ*B*q=R+P*(rL*(u+cQ*gk)):=by
 have aq:P*cQ*x=P*cQ*(rL*gk)+P*cQ*E3+P*cQ*c:=by rw[ae,Nat.mul_add,Nat.mul_add]
 have av:P*cQ*x=P*cQ*B*q+P*cQ*r:=by rw[a3,Nat.mul_add,Nat.mul_assoc (P*cQ)]
 have aW:P*(rL*(u+cQ*gk))=P*(rL*u)+P*cQ*(rL*gk):=by
  rw[Nat.mul_add,Nat.mul_add]
  congr 1
  rw[Nat.mul_assoc P,Nat.mul_left_comm rL]
 omega
noncomputable def Aq:List I->Option I:=a9 (fun z:Nat × Nat=>(aa z.1).length<=100000000/\(aa z.2).length<=100000000) (fun z=>[af z.1,af z.2]) (fun z=>af (z.1*z.2))
theorem Xi {a b:Nat} {e e':Bool} (aC:(aa a).length<=100000000) (ad:(aa b).length<=100000000):
 Aq [.sl ((aa a).map fun n=> .int .u32 (Z n)) e,.sl ((aa b).map fun n=> .int .u32 (Z n)) e']=some (af (a*b)):=
 bk (fun z w h=>by simp[bq,bE] at h;simp[h]) (a,b) ⟨aC,ad⟩ (by simp)
structure Ar (a b:Nat) (i:Nat) (o:List Nat) (s:aL) (q:Nat):Prop where
 len:o.length=(aa a).length+(aa b).length
 m4:Small o
 ar:∀j,i+(aa b).length<=j->aD o j=0
 f0:s.F 0=af a
 f1:s.F 1=af b
 f5:s.F 5= .ref q 0 ((aa a).length+(aa b).length) ((aa a).length+(aa b).length)
 f6:s.F 6=aJ i
 cells:s.h.cells q=some (o.map fun n=> .int .u32 (Z n))
 cc:s.h.shut q=false
 dZ:q<s.h.next
theorem Xj:aH Tryz.prog G 242 Aq:=by
 refine bg mixed Ew U7 fun z ar=>?_
 obtain⟨a,b⟩:=z
 obtain⟨bs,bp⟩:=ar
 simp only at bs bp|-
 have aC:=dD a
 have ad:=dD b
 obtain⟨A,a5⟩:∃A,A=(aa a).length:=⟨_,rfl⟩
 obtain⟨B,bB⟩:∃B,B=(aa b).length:=⟨_,rfl⟩
 have E4:a<al A:=cE.1 (by omega)
 have E5:b<al B:=cE.1 (by omega)
 unfold i242
 refine bc (bm bC ?_)
 simp[aG]
 refine bc (bm bC ?_)
 simp[<-a5,<-bB,dw (show A+B<9223372036854775808 by omega),show Z (A+B)*4<=140737488355328 by simp only[Z];omega]
 refine bc (bc (bm bC ?_))
 simp
 refine lO (id:=0) (fun m s=>∃i o q,m=A - i/\i<=A/\val o=a%al i*b/\Ar a b i o s q) (fun s=>∃o q,val o=a*b/\Ar a b A o s q) (fun _=>False) A ?_ ?_ ?_ (fun _ h=>h.elim)
 · refine⟨0,List.replicate (A+B) 0,1+5,by omega,by omega,by simp[s6,fG,Nat.mod_one],⟨by simp[<-a5,<-bB],qt _,fun j _=>xv _ _,by simp,by simp,by simp[<-a5,<-bB],by simp,by simp,by simp,by simp⟩⟩
 · rintro m s ⟨i,o,q,rfl,ab,an,aj⟩
   refine bc (bc (bm bC ?_))
   simp[aj.f0,aj.f6,<-a5]
   refine fY _ rfl (fun J=>?_) (fun J=>?_)
   · have lL:i<A:=by simpa using J
     have ae:=aC.aD i
     have nH:=(ka (show i<(aa a).length by omega)).symm
     have vk:=iH a i
     refine iX ?_
     simp
     refine bc (jW (bc (bm bC ?_)))
     simp
     refine bc (bc (bm bC ?_))
     simp
     generalize ji:aD (aa a) i=x at*
     refine lO (id:=2) (fun m s=>∃k c o,m=B - k/\k<=B/\c<4294967296/\val o+al i*al k*c=a%al i*b+al i*(x*(b%al k))/\Ar a b i o s q/\s.F 7=fB c/\s.F 8=aJ k)
      (fun s=>∃c o,c<4294967296/\val o+al i*al B*c=a%al i*b+al i*(x*b)/\Ar a b i o s q/\s.F 7=fB c) (fun _=>False) B ?_ ?_ ?_ (fun _ h=>h.elim)
     · refine⟨0,0,o,by omega,by omega,by omega,by simp[an,fG,Nat.mod_one],⟨aj.len,aj.m4,aj.ar,by simp[aj.f0],by simp[aj.f1],by simp[aj.f5],by simp[aj.f6],by simp[aj.cells],by simp[aj.cc],by have:=aj.dZ;simp;omega⟩,by simp,by simp⟩
     · rintro m s ⟨k,c,o,rfl,ag,J,an,aj,f7,f8⟩
       refine bc (bc (bm bC ?_))
       simp[aj.f1,f8,<-bB]
       refine fY _ rfl (fun jz=>?_) (fun jz=>?_)
       · have lW:k<B:=by simpa using jz
         have aQ:=ad.aD k
         have pE:=(ka (show k<(aa b).length by omega)).symm
         have iL:=iH b k
         have ay:=aj.m4.aD (i+k)
         have iI:=aj.len
         have go:=(ka (show i+k<o.length by omega)).symm
         have n7:=aj.dZ
         generalize j5:aD (aa b) k=y at*
         generalize qy:aD o (i+k)=z at*
         have mq:=MO ae aQ
         have vl:x*y+z+c<18446744073709551616:=by omega
         have vm:x*y+z<18446744073709551616:=by omega
         have mm:i+k<A+B:=by omega
         have f0:=aj.f0
         have f1:=aj.f1
         have f5:=aj.f5
         have f6:=aj.f6
         have dH:=aj.cells
         have fq:=aj.cc
         have lh:A+B<=o.length:=by omega
         have K:=c7 f0 f1 f5 f6 f7 f8;clear f0 f1 f5 f6 f7 f8
         refine bO [0,1,5,6,7,8,9] fun F k=>?_;clear K
         obtain⟨f0,f1,f5,f6,f7,f8,f9⟩:=k
         have nI:o≠ []:=fun h=>by rw[h] at lh;simp at lh;omega
         have nJ:0<o.length:=by omega
         repeat' (first
          | refine bc ?_
          | ((fail_if_success (refine zN ?_));(fail_if_success (refine zO ?_));refine jW ?_)
          | ((first|(refine bm bC ?_;simp(disch:=omega) [dH,fq,nH,pE,go,ji,j5,qy,vl,vm,mm,lh,sizedB,nI,nJ,<-a5,<-bB,f0,f1,f5,f6,f7,f8,f9];(try(refine⟨by first|decide|rfl,?_⟩)))|(refine iX ?_;simp(disch:=omega) [dH,fq,nH,pE,go,ji,j5,qy,vl,vm,mm,lh,sizedB,nI,nJ,<-a5,<-bB,f0,f1,f5,f6,f7,f8,f9]));(try(refine zM [0,1,5,6,7,8,9] ?_;intro F;simp only[sU];intro je bu ku mX rM As E6;simp(disch:=omega) [dH,fq,nH,pE,go,ji,j5,qy,vl,vm,mm,lh,sizedB,nI,nJ,<-a5,<-bB,f0,f1,f5,f6,f7,f8,f9] at je bu ku mX rM As E6;clear f0 f1 f5 f6 f7 f8 f9;have f0:=je;have f1:=bu;have f5:=ku;have f6:=mX;have f7:=rM;have f8:=As;have f9:=E6;clear je bu ku mX rM As E6)))
          | (refine fY _ (by simp(disch:=omega) [dH,fq,nH,pE,go,ji,j5,qy,vl,vm,mm,lh,sizedB,nI,nJ,<-a5,<-bB,f0,f1,f5,f6,f7,f8,f9];rfl) (fun J=>?_) (fun J=>?_)<;>first|(exfalso;simp(disch:=omega) [dH,fq,nH,pE,go,ji,j5,qy,vl,vm,mm,lh,sizedB,nI,nJ,<-a5,<-bB] at J;done)|(exfalso;simp at J;omega)|(simp at J))
          | ((first|refine b5 ?_|refine c_ ?_);simp(disch:=omega) [dH,fq,nH,pE,go,ji,j5,qy,vl,vm,mm,lh,sizedB,nI,nJ,<-a5,<-bB,f0,f1,f5,f6,f7,f8,f9]))
         have xx:=map_set o (i+k) ((x*y+z+c)%4294967296)
         have iJ:=nz ((x*y+z+c)%4294967296) (show i+k<o.length by omega)
         rw[qy,iP] at iJ
         have vn:=MP (B:=4294967296) (q:=(x*y+z+c)/4294967296) iJ rfl (Nat.div_add_mod _ _).symm (show val o+al i*al k*c=a%al i*b+al i*(x*(b%al k)) from an)
         refine⟨B -(k+1),by omega,k+1,rfl,by omega,(x*y+z+c)/4294967296,by omega,o.set (i+k) ((x*y+z+c)%4294967296),?_,⟨by simp only[List.length_set];exact aj.len,nA aj.m4 (Nat.mod_lt _ (by decide)),fun j aB=>?_,by simp[f0],by simp[f1],by simp[f5,<-a5,<-bB],by simp[f6],by simp only[au,if_true];exact congrArg some xx,by simp[fq],by simp;omega⟩,rfl,rfl⟩
         · rw[mA,er,<-iL,<-Nat.mul_assoc]
           exact vn
         · rw[n6 _ _ (by omega),if_neg (by omega)]
           exact aj.ar j aB
       · have E7:k=B:=by simp at jz;omega
         subst E7
         refine c_ ?_
         rw[Nat.mod_eq_of_lt E5] at an
         exact ⟨rfl,c,J,o,an,⟨aj.len,aj.m4,aj.ar,by simp[aj.f0],by simp[aj.f1],by simp[aj.f5],by simp[aj.f6],by simp[aj.cells],by simp[aj.cc],by have:=aj.dZ;simp;omega⟩,by simp[f7]⟩
     · rintro s ⟨c,o,J,an,aj,f7⟩
       have f0:=aj.f0
       have f1:=aj.f1
       have f5:=aj.f5
       have f6:=aj.f6
       have dH:=aj.cells
       have fq:=aj.cc
       have iI:=aj.len
       have n7:=aj.dZ
       have lh:A+B<=o.length:=by omega
       have nI:o≠ []:=fun h=>by rw[h] at lh;simp at lh;omega
       have nJ:0<o.length:=by omega
       have qz:i+B<A+B:=by omega
       have K:=bx f0 f1 f5 f6 f7;clear f0 f1 f5 f6 f7
       refine bO [0,1,5,6,7] fun F k=>?_;clear K
       obtain⟨f0,f1,f5,f6,f7⟩:=k
       repeat' (first
        | refine bc ?_
        | ((fail_if_success (refine zN ?_));(fail_if_success (refine zO ?_));refine jW ?_)
        | ((first|(refine bm bC ?_;simp(disch:=omega) [dH,fq,qz,lh,sizedB,nI,nJ,<-a5,<-bB,f0,f1,f5,f6,f7];(try(refine⟨by first|decide|rfl,?_⟩)))|(refine iX ?_;simp(disch:=omega) [dH,fq,qz,lh,sizedB,nI,nJ,<-a5,<-bB,f0,f1,f5,f6,f7]));(try(refine zM [0,1,5,6,7] ?_;intro F;simp only[sU];intro je bu ku mX rM;simp(disch:=omega) [dH,fq,qz,lh,sizedB,nI,nJ,<-a5,<-bB,f0,f1,f5,f6,f7] at je bu ku mX rM;clear f0 f1 f5 f6 f7;have f0:=je;have f1:=bu;have f5:=ku;have f6:=mX;have f7:=rM;clear je bu ku mX rM)))
        | (refine fY _ (by simp(disch:=omega) [dH,fq,qz,lh,sizedB,nI,nJ,<-a5,<-bB,f0,f1,f5,f6,f7];rfl) (fun J=>?_) (fun J=>?_)<;>first|(exfalso;simp(disch:=omega) [dH,fq,qz,lh,sizedB,nI,nJ,<-a5,<-bB] at J;done)|(exfalso;simp at J;omega)|(simp at J))
        | ((first|refine b5 ?_|refine c_ ?_);simp(disch:=omega) [dH,fq,qz,lh,sizedB,nI,nJ,<-a5,<-bB,f0,f1,f5,f6,f7]))
       have xx:=map_set o (i+B) c
       have iJ:=nz c (show i+B<o.length by omega)
       rw[aj.ar (i+B) (by omega),Nat.mul_zero,Nat.add_zero,iP] at iJ
       refine⟨A -(i+1),by omega,i+1,rfl,by omega,o.set (i+B) c,?_,q,⟨by simp only[List.length_set];exact aj.len,nA aj.m4 J,fun j aB=>?_,by simp[f0],by simp[f1],by simp[f5,<-a5,<-bB],by simp,by simp only[au,if_true];exact congrArg some xx,by simp[fq],by simp;omega⟩⟩
       · rw[iJ,mA,<-vk,Nat.add_mul,an,Nat.mul_assoc]
       · rw[n6 _ _ (by omega),if_neg (by omega)]
         exact aj.ar j (by omega)
   · have jE:i=A:=by simp at J;omega
     subst jE
     refine c_ ?_
     rw[Nat.mod_eq_of_lt E4] at an
     exact ⟨rfl,o,an,q,⟨aj.len,aj.m4,aj.ar,by simp[aj.f0],by simp[aj.f1],by simp[aj.f5],by simp[aj.f6],by simp[aj.cells],by simp[aj.cc],by have:=aj.dZ;simp;omega⟩⟩
 · rintro s ⟨o,q,an,aj⟩
   have iI:=aj.len
   have f5:=aj.f5
   have dH:=aj.cells
   have b':=qs (e:=false) aj.m4 (show o.length<=1073741824 by omega)
   rw[an] at b'
   have eC:List.take (A+B) (o.map fun n=>I.int .u32 (Z n))=o.map fun n=>I.int .u32 (Z n):=List.take_of_length_le (by simp;omega)
   have lh:A+B<=o.length:=by omega
   have K:=f5;clear f5
   refine bO [4,5] fun F k=>?_;clear K
   obtain⟨f4,f5⟩:=k
   have H:=c7 dH b' eC lh a5.symm bB.symm
   have K:=bw f4 f5;clear f4 f5
   exact a7 [4,5]
noncomputable def MQ:FuncId->Option (List I->Option I):=cf [(242,Aq)]
theorem Xk:∀f T,MQ f=some T->aH Tryz.prog G f T:=cg (by simp only[List.forall_mem_cons];exact ⟨Xj,fun _ h=>absurd h (by simp)⟩)
theorem Xl:MQ 242=some Aq:=rfl
attribute [local simp] Xl
noncomputable def At:List I->Option I:=a9 (fun z:Nat × Nat=>(aa z.1).length<=100000000/\(aa z.2).length<=100000000) (fun z=>[af z.1,af z.2]) (fun z=>af (z.1*z.2))
theorem Xm {a b:Nat} {e e':Bool} (aC:(aa a).length<=100000000) (ad:(aa b).length<=100000000):
 At [.sl ((aa a).map fun n=> .int .u32 (Z n)) e,.sl ((aa b).map fun n=> .int .u32 (Z n)) e']=some (af (a*b)):=
 bk (fun z w h=>by simp[bq,bE] at h;simp[h]) (a,b) ⟨aC,ad⟩ (by simp)
theorem Xn:aH Tryz.prog G 181 At:=by
 refine bg mixed Xk U0 fun z ar=>?_
 obtain⟨a,b⟩:=z
 have t:=Xi (e:=false) (e':=false) ar.1 ar.2
 unfold i181
 refine aK [0,1,4] fun F K=>?_
 obtain⟨f0,f1,f4⟩:=K
 have H:=t
 have K:=b3 f0 f1 f4;clear f0 f1 f4
 exact a7 [0,1,4]
end
section
attribute [local irreducible] ba
attribute [local simp] cW cI ct
def bp (o:List Nat):List I:=o.map fun n=> .int .u32 (Z n)
theorem ko {o:List Nat} {i:Nat} (h:i<o.length):(bp o)[i]? =some (.int .u32 (Z (aD o i))):=pw h
theorem pF (o:List Nat) (i v:Nat):(bp o).set i (.int .u32 (Z v))=bp (o.set i v):=map_set o i v
theorem qA (o:List Nat):(bp o).length=o.length:=by simp[bp]
theorem kX {o:List Nat} (h:0<o.length):sizedB 1 (some (bp o))=true:=by
 simp[sizedB,bp,I.cells];exact h
theorem Au (n:Nat):List.replicate n (I.int .u32 (Z 0))=bp (List.replicate n 0):=VH n
theorem Av (o:List Nat):(bp o).all I.ea=true:=xq o
theorem Aw {o:List Nat} {n:Nat} (h:o.length<=n):List.take n (bp o)=bp o:=List.take_of_length_le (by rw[qA];exact h)
structure fC (h:ah) (q:Nat) (o:List Nat):Prop where
 cells:h.cells q=some (bp o)
 cc:h.shut q=false
 dZ:q<h.next
theorem fC.bump {h:ah} {q:Nat} {o:List Nat} (R:fC h q o) (m:Nat) (p:Nat->Option fT) (hm:h.next<=m):fC ⟨h.cells,h.shut,m,p⟩ q o:=⟨R.cells,R.cc,Nat.lt_of_lt_of_le R.dZ hm⟩
theorem fC.put {h:ah} {q:Nat} {o:List Nat} (R:fC h q o) (o':List Nat) (m:Nat) (p:Nat->Option fT) (hm:h.next<=m):fC ⟨au h.cells q (some (bp o')),h.shut,m,p⟩ q o':=
 ⟨by simp only[au,if_true],R.cc,Nat.lt_of_lt_of_le R.dZ hm⟩
theorem fC.new {h:ah} {q:Nat} {o:List Nat} (m:Nat) (p:Nat->Option fT) (ax:h.shut q=false) (aM:q<m):fC ⟨au h.cells q (some (bp o)),h.shut,m,p⟩ q o:=
 ⟨by simp only[au,if_true],ax,aM⟩
noncomputable def MR:FuncId->Option (List I->Option I):=cf [(170,kW)]
theorem Xo:∀f T,MR f=some T->aH Tryz.prog G f T:=cg (by simp only[List.forall_mem_cons];exact ⟨qu,fun _ h=>absurd h (by simp)⟩)
theorem Xp:MR 170=some kW:=rfl
attribute [local simp] Xp
def MS (a b A B i:Nat) (s:aL):Prop:=∃q o,o.length=A+B/\Small o/\(∀j,i+B<=j->aD o j=0)/\val o=a%al i*b/\s.F 5= .ref q 0 (A+B) (A+B)/\fC s.h q o
def MT (a b A B i x k:Nat) (s:aL):Prop:=∃q o c,o.length=A+B/\Small o/\(∀j,i+B<=j->aD o j=0)/\c<4294967296/\val o+al i*al k*c=a%al i*b+al i*(x*(b%al k))/\s.F 5= .ref q 0 (A+B) (A+B)/\s.F 8=fB c/\fC s.h q o
noncomputable def vo:List I->Option I:=a9 (fun z:Nat × Nat=>(aa z.1).length<=100000000/\(aa z.2).length<=100000000) (fun z=>[af z.1,af z.2]) (fun z=>af (z.1*z.2))
theorem MU (z:Nat × Nat) (h:(aa z.1).length<=100000000/\(aa z.2).length<=100000000) {args:List I} (he:args.map I.loose= [af z.1,af z.2]):vo args=some (af (z.1*z.2)):=bk (fun z w h=>by simp only[List.cons.injEq,I.int.injEq,I.bool.injEq,I.sl.injEq,bX,bW,bU,b4,bZ,bq,bE,bY,bj,true_and,and_true] at h;simp[h]) z h he
theorem MV:aH Tryz.prog G 203 vo:=by
 refine bg mixed Xo K6 fun z ar=>?_
 obtain⟨a,b⟩:=z
 obtain⟨bs,Xq⟩:=ar
 simp only at bs Xq|-
 have aC:=dD a
 have ad:=dD b
 obtain⟨A,a5⟩:∃A,A=(aa a).length:=⟨_,rfl⟩
 obtain⟨B,bB⟩:∃B,B=(aa b).length:=⟨_,rfl⟩
 have E4:a<al A:=cE.1 (by omega)
 have E5:b<al B:=cE.1 (by omega)
 have hw:IntKind.i64.wrap (Z A+Z B)=Z (A+B):=dw (by omega)
 have aT:Z (A+B)*4<=140737488355328:=by simp only[Z];omega
 unfold i203
 refine aK [0,1,4,5,6,7,8,9,10,17,18,19,20,24,25,26,27] fun F K=>?_
 obtain⟨f0,f1,f4,f5,f6,f7,f8,f9,f10,f17,f18,f19,f20,f24,f25,f26,f27⟩:=K
 have H:=bx a5.symm bB.symm hw aT (@Au)
 have K:=xl f0 f1 f4 f5 f6 f7 f8 f9 f10 f17 f18 f19 f20 f24 f25 f26 f27;clear f0 f1 f4 f5 f6 f7 f8 f9 f10 f17 f18 f19 f20 f24 f25 f26 f27
 refine bA [0,1,4,5,6,7,8,9,10,17,18,19,20,24,25,26,27] fun F k=>?_;clear K H
 obtain⟨f0,f1,f4,f5,f6,f7,f8,f9,f10,f17,f18,f19,f20,f24,f25,f26,f27⟩:=k
 refine gg A (fun i s=>MS a b A B i s/\s.F 19=aJ i) (MS a b A B A) (fun _=>False) ?_ ?_ ?_ (fun _ _ h=>h.elim)
 · exact ⟨⟨_,List.replicate (A+B) 0,by simp,qt _,fun j _=>xv _ _,by simp[s6,fG,Nat.mod_one],f5,⟨by simp[au],by simp,by simp⟩⟩,f19⟩
 · rintro i s ab ag ⟨⟨q,o,iI,fH,ar,an,dC,V⟩,Xr⟩
   replace f0:=(ag 0 rfl).trans f0;replace f1:=(ag 1 rfl).trans f1;replace f17:=(ag 17 rfl).trans f17;replace f18:=(ag 18 rfl).trans f18
   clear f5 f19
   have f5:=dC
   have f19:=Xr
   have K:=c7 f0 f1 f5 f17 f18 f19;clear f0 f1 f5 f17 f18 f19
   refine bO [0,1,5,6,7,8,17,18,19,20,24,25,26] fun F k=>?_;clear K
   obtain⟨f0,f1,f5,f6,f7,f8,f17,f18,f19,f20,f24,f25,f26⟩:=k
   by_cases lL:i<A
   · have ae:=aC.aD i
     have nH:=(ka (show i<(aa a).length by omega)).symm
     have vk:=iH a i
     generalize ji:aD (aa a) i=x at*
     have H:=bx lL nH ji a5.symm bB.symm
     have K:=kT f0 f1 f5 f6 f7 f8 f17 f18 f19 f20 f24 f25 f26;clear f0 f1 f5 f6 f7 f8 f17 f18 f19 f20 f24 f25 f26
     refine bA [0,1,5,6,7,8,17,18,19,20,24,25,26] fun F k=>?_;clear K H
     obtain⟨f0,f1,f5,f6,f7,f8,f17,f18,f19,f20,f24,f25,f26⟩:=k
     refine gg B (fun k s=>MT a b A B i x k s/\s.F 26=aJ k) (MT a b A B i x B) (fun _=>False) ?_ ?_ ?_ (fun _ _ h=>h.elim)
     · exact ⟨⟨q,o,0,iI,fH,ar,by omega,by simp[an,fG,Nat.mod_one],f5,f8,V.bump _ _ (by omega)⟩,f26⟩
     · rintro k s kK ag ⟨⟨q,o,c,iI,fH,ar,m_,an,dC,kc,V⟩,xG⟩
       replace f0:=(ag 0 rfl).trans f0;replace f1:=(ag 1 rfl).trans f1;replace f6:=(ag 6 rfl).trans f6;replace f7:=(ag 7 rfl).trans f7;replace f17:=(ag 17 rfl).trans f17;replace f18:=(ag 18 rfl).trans f18;replace f19:=(ag 19 rfl).trans f19;replace f24:=(ag 24 rfl).trans f24;replace f25:=(ag 25 rfl).trans f25
       clear f5 f8 f26
       have f5:=dC
       have f8:=kc
       have f26:=xG
       have K:=k9 f0 f1 f5 f6 f7 f8 f17 f18 f19 f24 f25 f26;clear f0 f1 f5 f6 f7 f8 f17 f18 f19 f24 f25 f26
       refine bO [0,1,5,6,7,8,9,10,17,18,19,24,25,26,27] fun F k=>?_;clear K
       obtain⟨f0,f1,f5,f6,f7,f8,f9,f10,f17,f18,f19,f24,f25,f26,f27⟩:=k
       by_cases lW:k<B
       · have aQ:=ad.aD k
         have pE:=(ka (show k<(aa b).length by omega)).symm
         have iL:=iH b k
         have ay:=fH.aD (i+k)
         have go:=ko (show i+k<o.length by omega)
         generalize j5:aD (aa b) k=y at*
         generalize qy:aD o (i+k)=z at*
         have mq:=MO ae aQ
         have o8:x*y+z<18446744073709551616:=by omega
         have qc:c+(x*y+z)<18446744073709551616:=by omega
         have mm:i+k<A+B:=by omega
         have sz:=kX (show 0<o.length by omega)
         have st:=pF o (i+k) ((c+(x*y+z))%4294967296)
         have dH:=V.cells
         have fq:=V.cc
         have H:=kT lW dH fq pE go j5 o8 qc mm sz st a5.symm bB.symm
         have K:=xk f0 f1 f5 f6 f7 f8 f9 f10 f17 f18 f19 f24 f25 f26 f27;clear f0 f1 f5 f6 f7 f8 f9 f10 f17 f18 f19 f24 f25 f26 f27
         refine bA [0,1,5,6,7,8,9,10,17,18,19,24,25,26,27] fun F k=>?_;clear K H
         obtain⟨f0,f1,f5,f6,f7,f8,f9,f10,f17,f18,f19,f24,f25,f26,f27⟩:=k
         have iJ:=nz ((c+(x*y+z))%4294967296) (show i+k<o.length by omega)
         rw[qy,iP] at iJ
         have vn:=MP (B:=4294967296) (q:=(c+(x*y+z))/4294967296) iJ (show c+(x*y+z)=x*y+z+c by omega) (Nat.div_add_mod _ _).symm (show val o+al i*al k*c=a%al i*b+al i*(x*(b%al k)) from an)
         refine⟨q,o.set (i+k) ((c+(x*y+z))%4294967296),(c+(x*y+z))/4294967296,by rw[List.length_set];exact iI,nA fH (Nat.mod_lt _ (by decide)),fun j aB=>?_,by omega,?_,f5,f8,V.put _ _ _ (by omega)⟩
         · rw[n6 _ _ (by omega),if_neg (by omega)]
           exact ar j aB
         · rw[mA,er,<-iL,<-Nat.mul_assoc]
           exact vn
       · have E7:k=B:=by omega
         subst E7
         have H:=lW
         have K:=xk f0 f1 f5 f6 f7 f8 f9 f10 f17 f18 f19 f24 f25 f26 f27;clear f0 f1 f5 f6 f7 f8 f9 f10 f17 f18 f19 f24 f25 f26 f27
         refine bA [0,1,5,6,7,8,9,10,17,18,19,24,25,26,27] fun F k=>?_;clear K H
         obtain⟨f0,f1,f5,f6,f7,f8,f9,f10,f17,f18,f19,f24,f25,f26,f27⟩:=k
         exact ⟨q,o,c,iI,fH,ar,m_,an,f5,f8,V.bump _ _ (by omega)⟩
     · rintro s ag ⟨q,o,c,iI,fH,ar,m_,an,dC,kc,V⟩
       rw[Nat.mod_eq_of_lt E5] at an
       replace f0:=(ag 0 rfl).trans f0;replace f1:=(ag 1 rfl).trans f1;replace f6:=(ag 6 rfl).trans f6;replace f7:=(ag 7 rfl).trans f7;replace f17:=(ag 17 rfl).trans f17;replace f18:=(ag 18 rfl).trans f18;replace f19:=(ag 19 rfl).trans f19;replace f24:=(ag 24 rfl).trans f24;replace f25:=(ag 25 rfl).trans f25
       clear f5 f8 f26
       have f5:=dC
       have f8:=kc
       have K:=fO f0 f1 f5 f6 f7 f8 f17 f18 f19;clear f0 f1 f5 f6 f7 f8 f17 f18 f19
       refine bO [0,1,5,6,7,8,17,18,19] fun F k=>?_;clear K
       obtain⟨f0,f1,f5,f6,f7,f8,f17,f18,f19⟩:=k
       have qz:i+B<A+B:=by omega
       have sz:=kX (show 0<o.length by omega)
       have st:=pF o (i+B) c
       have nK:=ko (show i+B<o.length by omega)
       have dH:=V.cells
       have fq:=V.cc
       have H:=fO dH fq qz sz st nK m_ a5.symm bB.symm
       have K:=fO f0 f1 f5 f6 f7 f8 f17 f18 f19;clear f0 f1 f5 f6 f7 f8 f17 f18 f19
       refine bA [0,1,5,6,7,8,17,18,19] fun F k=>?_;clear K H
       obtain⟨f0,f1,f5,f6,f7,f8,f17,f18,f19⟩:=k
       have iJ:=nz c (show i+B<o.length by omega)
       rw[ar (i+B) (by omega),Nat.mul_zero,Nat.add_zero,iP] at iJ
       refine⟨q,o.set (i+B) c,by rw[List.length_set];exact iI,nA fH m_,fun j aB=>?_,?_,f5,V.put _ _ _ (by omega)⟩
       · rw[n6 _ _ (by omega),if_neg (by omega)]
         exact ar j (by omega)
       · rw[iJ,mA,<-vk,Nat.add_mul,an,Nat.mul_assoc]
   · have jE:i=A:=by omega
     subst jE
     have H:=lL
     have K:=kT f0 f1 f5 f6 f7 f8 f17 f18 f19 f20 f24 f25 f26;clear f0 f1 f5 f6 f7 f8 f17 f18 f19 f20 f24 f25 f26
     refine bA [0,1,5,6,7,8,17,18,19,20,24,25,26] fun F k=>?_;clear K H
     obtain⟨f0,f1,f5,f6,f7,f8,f17,f18,f19,f20,f24,f25,f26⟩:=k
     exact ⟨q,o,iI,fH,ar,an,f5,V.bump _ _ (by omega)⟩
 · rintro s ag ⟨q,o,iI,fH,ar,an,dC,V⟩
   rw[Nat.mod_eq_of_lt E4] at an
   clear f5 f19
   have f5:=dC
   have dH:=V.cells
   have b':=pA (e:=false) fH (show o.length<=1073741824 by omega)
   rw[an] at b'
   have eC:=Aw (show o.length<=A+B by omega)
   have nr:=Av o
   have az:=qA o
   have hle:A+B<=(bp o).length:=by omega
   have K:=f5;clear f5
   refine bO [4,5] fun F k=>?_;clear K
   obtain⟨f4,f5⟩:=k
   rw[show (o.map fun n=>I.int .u32 (Z n))=bp o from rfl] at b'
   have H:=bx dH b' eC nr hle
   have K:=bw f4 f5;clear f4 f5
   exact a7 [4,5]
end
section
attribute [local irreducible] ba
attribute [local simp] cW cI ct
noncomputable def E8:FuncId->Option (List I->Option I):=cf [(170,kW),(185,pD)]
theorem MW:∀f T,E8 f=some T->aH Tryz.prog G f T:=cg (by simp only[List.forall_mem_cons];exact ⟨qu,Ah,fun _ h=>absurd h (by simp)⟩)
theorem Xs:E8 170=some kW:=rfl
theorem Xt:E8 185=some pD:=rfl
attribute [local simp] Xs Xt
theorem Xu {a L k n:Nat} (a5:a<al L) (ag:k<=n):a/al (min k L)%al (min n L - min k L)=a%al n/al k:=by
 by_cases U:n<=L
 · rw[Nat.min_eq_left (by omega),Nat.min_eq_left U,<-Nat.mod_mul_right_div_self,<-iP,show k+(n - k)=n by omega]
 · rw[Nat.min_eq_right (show L<=n by omega),Nat.mod_eq_of_lt (Nat.lt_of_lt_of_le a5 (l6 (by omega:L<=n)))]
   by_cases h2:k<=L
   · rw[Nat.min_eq_left h2,Nat.mod_eq_of_lt]
     rw[Nat.div_lt_iff_lt_mul (jI k),<-iP,show L - k+k=L by omega]
     exact a5
   · rw[Nat.min_eq_right (by omega),Nat.sub_self,fG,Nat.mod_one,Nat.div_eq_of_lt (Nat.lt_of_lt_of_le a5 (l6 (by omega)))]
noncomputable def rN:List I->Option I:=a9 (fun z:Nat × Nat × Nat=>(aa z.1).length<=1000000000/\z.2.1<=z.2.2/\z.2.2<=1000000000000) (fun z=>[af z.1,aJ z.2.1,aJ z.2.2]) (fun z=>af (z.1%al z.2.2/al z.2.1))
theorem xO (z:Nat × Nat × Nat) (h:(aa z.1).length<=1000000000/\z.2.1<=z.2.2/\z.2.2<=1000000000000) {args:List I} (he:args.map I.loose= [af z.1,aJ z.2.1,aJ z.2.2]):rN args=some (af (z.1%al z.2.2/al z.2.1)):=bk (fun z w h=>by simp only[List.cons.injEq,I.int.injEq,I.bool.injEq,I.sl.injEq,bX,bW,bU,b4,bZ,bq,bE,bY,bj,true_and,and_true] at h;simp[h]) z h he
theorem MX:aH Tryz.prog G 252 rN:=by
 refine bg mixed MW Lf fun z ar=>?_
 obtain⟨a,k,n⟩:=z
 obtain⟨bs,ag,ak⟩:=ar
 simp only at bs ag ak|-
 obtain⟨L,bf⟩:∃L,L=(aa a).length:=⟨_,rfl⟩
 have a5:a<al L:=cE.1 (by omega)
 have aC:=dD a
 have b':=pA (e:=true) ((aC.drop (min k L)).take (min n L - min k L)) (by simp;omega)
 rw[Vl (aC.drop _),En aC,ct,Xu a5 ag,List.map_take,List.map_drop] at b'
 have cC:=u9 k L
 have dk:=u9 n L
 have U:min k L<=min n L:=by omega
 have h2:min n L<=L:=Nat.min_le_right _ _
 generalize a%al n/al k=r at*
 generalize ab:min k L=i at*
 generalize aB:min n L=j at*
 have ax:((aa a).map fun n=>I.int .u32 (Z n)).all (fun e=>e.cells.length == 1)=true:=by simp[I.cells]
 unfold i252
 refine aK [0,1,2,6] fun F K=>?_
 obtain⟨f0,f1,f2,f6⟩:=K
 have H:=fO bf.symm ab aB cC dk U h2 ax b'
 have K:=bM f0 f1 f2 f6;clear f0 f1 f2 f6
 exact a7 [0,1,2,6]
noncomputable def lj:List I->Option I:=a9 (fun z:Nat × Nat=>(aa z.1).length<=1000000000/\(aa z.2).length<=1000000000) (fun z=>[af z.1,af z.2]) (fun z=>af (z.1 - z.2))
theorem E9 (z:Nat × Nat) (h:(aa z.1).length<=1000000000/\(aa z.2).length<=1000000000) {args:List I} (he:args.map I.loose= [af z.1,af z.2]):lj args=some (af (z.1 - z.2)):=bk (fun z w h=>by simp only[List.cons.injEq,I.int.injEq,I.bool.injEq,I.sl.injEq,bX,bW,bU,b4,bZ,bq,bE,bY,bj,true_and,and_true] at h;simp[h]) z h he
theorem E_:aH Tryz.prog G 257 lj:=by
 refine bg mixed MW Li fun z ar=>?_
 obtain⟨a,b⟩:=z
 obtain⟨bs,bp⟩:=ar
 simp only at bs bp|-
 have t:=xE (a:=a) (b:=b) (e:=false) (e':=false) bs bp
 unfold i257
 by_cases h:a<b
 · rw[if_pos h] at t
   have dB:a - b=0:=by omega
   rw[dB]
   have dA:=eT
   refine aK [0,1,4,5] fun F K=>?_
   obtain⟨f0,f1,f4,f5⟩:=K
   have H:=t
   have K:=bM f0 f1 f4 f5;clear f0 f1 f4 f5
   repeat' (first|refine dT ?_|refine dU ?_|((first|refine eK ?_|refine eL ?_|refine eM ?_|exact dW|refine dV ?_);try(refine eA [0,1,4,5] fun F k=>?_;replace K:=k;clear k))|(refine dX (fun J=>?_) (fun J=>?_)<;>first|(exfalso;simp(disch:=omega) [H] at J;done)|(exfalso;simp at J;omega)|simp at J)|((first|refine b5 ?_|refine c_ ?_);simp(disch:=omega) [H,K,dA])|exact trivial)
   all_goals obtain⟨f0,f1,f4,f5⟩:=K
 · rw[if_neg h] at t
   generalize a - b=c at*
   refine aK [0,1,4,5] fun F K=>?_
   obtain⟨f0,f1,f4,f5⟩:=K
   have H:=t
   have K:=bM f0 f1 f4 f5;clear f0 f1 f4 f5
   exact a7 [0,1,4,5]
theorem E':∀z w:Nat × Nat,(fun z:Nat × Nat=>[af z.1,af z.2]) z=(fun z:Nat × Nat=>[af z.1,af z.2]) w->(fun z:Nat × Nat=>af (z.1*z.2)) z=(fun z:Nat × Nat=>af (z.1*z.2)) w:=fun z w h=>by simp only at h|-;first|(simp only[List.cons.injEq,I.int.injEq,I.bool.injEq,I.sl.injEq,bX,bW,bU,b4,bZ,bq,bE,bY,bj,true_and,and_true] at h;simp[h];done)|(simp only[I.agg.injEq,List.cons.injEq,I.int.injEq,I.bool.injEq,I.sl.injEq,bX,bW,bU,b4,bZ,bq,bE,bY,bj,true_and,and_true] at h;simp[h])
noncomputable def tm:List I->Option I:=a9 (fun z:Nat × Nat=>(aa z.1).length<=1000000/\(aa z.2).length<=1000000) (fun z:Nat × Nat=>[af z.1,af z.2]) (fun z:Nat × Nat=>af (z.1*z.2))
theorem MY (z:Nat × Nat) (h:(aa z.1).length<=1000000/\(aa z.2).length<=1000000) {args:List I} (he:args.map I.loose= [af z.1,af z.2]):tm args=some (af (z.1*z.2)):=bk E' z h he
noncomputable def vp (N:Nat):List I->Option I:=a9 (fun z:Nat × Nat=>((aa z.1).length<=1000000/\(aa z.2).length<=1000000)/\(max (aa z.1).length (aa z.2).length)<N) (fun z:Nat × Nat=>[af z.1,af z.2]) (fun z:Nat × Nat=>af (z.1*z.2))
theorem Fa {N:Nat} (z:Nat × Nat) (h:((aa z.1).length<=1000000/\(aa z.2).length<=1000000)/\(max (aa z.1).length (aa z.2).length)<N) {args:List I} (he:args.map I.loose= [af z.1,af z.2]):vp N args=some (af (z.1*z.2)):=bk E' z h he
theorem Xv (h:∀N,aH Tryz.prog G 202 (vp N)->aH Tryz.prog G 202 (vp (N+1))):aH Tryz.prog G 202 tm:=Ke E' (fun z:Nat × Nat=>max (aa z.1).length (aa z.2).length) h
noncomputable def tn (N:Nat):FuncId->Option (List I->Option I):=cf [(202,vp N),(203,vo),(252,rN),(257,lj),(174,jZ),(172,l_)]
theorem Xw {N:Nat} (h:aH Tryz.prog G 202 (vp N)):∀f T,tn N f=some T->aH Tryz.prog G f T:=cg (by simp only[List.forall_mem_cons];exact ⟨h,MV,MX,E_,ve,Ai,fun _ h=>absurd h (by simp)⟩)
theorem Xx (N:Nat):tn N 202=some (vp N):=rfl
theorem Xy (N:Nat):tn N 203=some vo:=rfl
theorem Xz (N:Nat):tn N 252=some rN:=rfl
theorem XA (N:Nat):tn N 257=some lj:=rfl
theorem XB (N:Nat):tn N 174=some jZ:=rfl
theorem XC (N:Nat):tn N 172=some l_:=rfl
attribute [local simp] Xx Xy Xz XA XB XC
theorem XD {P a0 a1 b0 b1:Nat}:a0*b0+(((a0+a1)*(b0+b1) -(a0*b0+a1*b1))*P+a1*b1*(P*P))=(a0+P*a1)*(b0+P*b1):=by
 have e:(a0+a1)*(b0+b1)=(a0*b0+a1*b1)+(a0*b1+a1*b0):=by grind
 rw[e,Nat.add_sub_cancel_left];grind
theorem MZ:aH Tryz.prog G 202 tm:=by
 refine Xv fun N a6=>?_
 refine bg mixed (Xw a6) K5 fun z ar=>?_
 obtain⟨a,b⟩:=z
 obtain⟨⟨bs,bp⟩,iN⟩:=ar
 simp only at bs bp iN|-
 obtain⟨L,bf⟩:∃L,L=(aa a).length:=⟨_,rfl⟩
 obtain⟨M,lN⟩:∃M,M=(aa b).length:=⟨_,rfl⟩
 obtain⟨n,ak⟩:∃n,n=max L M:=⟨_,rfl⟩
 have cC:=u7 L M
 have dk:=u9 L M
 rw[<-ak] at cC
 rw[<-bf] at iN bs
 rw[<-lN] at iN bp
 have a5:a<al n:=cE.1 (by omega)
 have bB:b<al n:=cE.1 (by omega)
 unfold i202
 by_cases p7:min L M<4
 · have t:=MU (a,b) ⟨by simp only;omega,by simp only;omega⟩ (args:=[af a,af b]) (by simp)
   simp only at t
   generalize a*b=c at*
   refine aK [0,1,4,5,6,7,8,9,10,11,12,13,24] fun F K=>?_
   obtain⟨f0,f1,f4,f5,f6,f7,f8,f9,f10,f11,f12,f13,f24⟩:=K
   have H:=c7 bf.symm lN.symm cC dk p7 t
   have K:=kT f0 f1 f4 f5 f6 f7 f8 f9 f10 f11 f12 f13 f24;clear f0 f1 f4 f5 f6 f7 f8 f9 f10 f11 f12 f13 f24
   exact a7 [0,1,4,5,6,7,8,9,10,11,12,13,24]
 · obtain⟨k,ag⟩:∃k,k=(n+1)/2:=⟨_,rfl⟩
   have lW:k<n:=by omega
   have bR:∀x,x<al n->rN [af x,aJ 0,aJ k]=some (af (x%al k)):=fun x ae=>by
    have:=xO (x,0,k) ⟨by simp only;have:=cE.2 ae;omega,Nat.zero_le _,by simp only;omega⟩ (args:=[af x,aJ 0,aJ k]) (by simp)
    simpa[fG] using this
   have a_:∀x,x<al n->rN [af x,aJ k,aJ n]=some (af (x/al k)):=fun x ae=>by
    have:=xO (x,k,n) ⟨by simp only;have:=cE.2 ae;omega,by simp only;omega,by simp only;omega⟩ (args:=[af x,aJ k,aJ n]) (by simp)
    simpa[Nat.mod_eq_of_lt ae] using this
   have XE:=bR a a5
   have M0:=a_ a a5
   have XF:=bR b bB
   have M1:=a_ b bB
   have uU:∀x,(aa (x%al k)).length<=k:=fun x=>cE.2 (Nat.mod_lt _ (jI k))
   have bG:∀x,x<al n->(aa (x/al k)).length<=n - k:=fun x ae=>cE.2 (by
    rw[Nat.div_lt_iff_lt_mul (jI k),<-iP,show n - k+k=n by omega];exact ae)
   have ajp:=uU a
   have ajq:=bG a a5
   have ajr:=uU b
   have ajs:=bG b bB
   have fL:a*b=(a%al k+al k*(a/al k))*(b%al k+al k*(b/al k)):=by rw[Nat.mod_add_div,Nat.mod_add_div]
   rw[fL]
   generalize a%al k=a0 at*
   generalize a/al k=a1 at*
   generalize b%al k=b0 at*
   generalize b/al k=b1 at*
   have ajt:=kA a0 a1
   have aju:=kA b0 b1
   have ajv:=kV a0 b0
   have ajw:=kV a1 b1
   have ls:=kV (a0+a1) (b0+b1)
   have lt:=kA (a0*b0) (a1*b1)
   have lm:=gh (Nat.sub_le ((a0+a1)*(b0+b1)) (a0*b0+a1*b1))
   have fin:=XD (P:=2^(32*k)) (a0:=a0) (a1:=a1) (b0:=b0) (b1:=b1)
   rw[<-Nat.pow_add,show 32*k+32*k=64*k by omega] at fin
   have XG:(a0+2^(32*k)*a1)*(b0+2^(32*k)*b1)=(a0+al k*a1)*(b0+al k*b1):=by rw[kB]
   rw[XG] at fin
   have t1:=Fa (N:=N) (a0,b0) ⟨⟨by simp only;omega,by simp only;omega⟩,by simp only;omega⟩ (args:=[af a0,af b0]) (by simp)
   have t2:=Fa (N:=N) (a1,b1) ⟨⟨by simp only;omega,by simp only;omega⟩,by simp only;omega⟩ (args:=[af a1,af b1]) (by simp)
   have t3:=Fa (N:=N) (a0+a1,b0+b1) ⟨⟨by simp only;omega,by simp only;omega⟩,by simp only;omega⟩ (args:=[af (a0+a1),af (b0+b1)]) (by simp)
   have s1:=nE (a:=a0) (b:=a1) (e:=false) (e':=false) (by omega) (by omega)
   have s2:=nE (a:=b0) (b:=b1) (e:=false) (e':=false) (by omega) (by omega)
   have jh:=nE (a:=a0*b0) (b:=a1*b1) (e:=false) (e':=false) (by omega) (by omega)
   have mF:=E9 ((a0+a1)*(b0+b1),a0*b0+a1*b1) ⟨by simp only;omega,by simp only;omega⟩ (args:=[af ((a0+a1)*(b0+b1)),af (a0*b0+a1*b1)]) (by simp)
   simp only at t1 t2 t3 mF
   generalize (a0+a1)*(b0+b1) -(a0*b0+a1*b1)=mid at*
   have kY:=tf (a:=mid) (n:=32*k) (e:=false) (by omega) (by omega)
   have oO:=tf (a:=a1*b1) (n:=64*k) (e:=false) (by omega) (by omega)
   have wU:=kV mid (2^(32*k))
   have RY:=kV (a1*b1) (2^(64*k))
   have Fb:(aa (2^(32*k))).length<=k+1:=cE.2 (by rw[<-kB,er];have:=jI k;omega)
   have ajx:(aa (2^(64*k))).length<=2*k+1:=cE.2 (by rw[show 64*k=32*(2*k) by omega,<-kB,er];have:=jI (2*k);omega)
   have oL:=nE (a:=mid*2^(32*k)) (b:=a1*b1*2^(64*k)) (e:=false) (e':=false) (by omega) (by omega)
   have RZ:=kA (mid*2^(32*k)) (a1*b1*2^(64*k))
   have oP:=nE (a:=a0*b0) (b:=mid*2^(32*k)+a1*b1*2^(64*k)) (e:=false) (e':=false) (by omega) (by omega)
   rw[fin] at oP
   generalize (a0+al k*a1)*(b0+al k*b1)=c at*
   generalize mid*2^(32*k)+a1*b1*2^(64*k)=b8 at*
   generalize mid*2^(32*k)=bQ at*
   generalize a1*b1*2^(64*k)=cF at*
   generalize a0*b0+a1*b1=cY at*
   generalize (a0+a1)*(b0+b1)=k6 at*
   generalize a0*b0=m1 at*
   generalize a1*b1=kk at*
   generalize a0+a1=oE at*
   generalize b0+b1=ajy at*
   have b7:IntKind.i64.wrap (Z 32*Z k)=Z (32*k):=ql (by omega)
   have c9:IntKind.i64.wrap (Z 64*Z k)=Z (64*k):=ql (by omega)
   have iW:(n+1)/2=k:=ag.symm
   refine aK [0,1,4,5,6,7,8,9,10,11,12,13,24] fun F K=>?_
   obtain⟨f0,f1,f4,f5,f6,f7,f8,f9,f10,f11,f12,f13,f24⟩:=K
   have H:=Ud bf.symm lN.symm cC dk p7 b7 c9 iW XE M0 XF M1 t1 t2 t3 s1 s2 jh mF kY oO oL oP
   have K:=kT f0 f1 f4 f5 f6 f7 f8 f9 f10 f11 f12 f13 f24;clear f0 f1 f4 f5 f6 f7 f8 f9 f10 f11 f12 f13 f24
   exact a7 [0,1,4,5,6,7,8,9,10,11,12,13,24]
end
section
attribute [local irreducible] ba
attribute [local simp] cW cI ct
noncomputable def Ax:FuncId->Option (List I->Option I):=cf [(170,kW),(185,pD),(257,lj)]
theorem M3:∀f T,Ax f=some T->aH Tryz.prog G f T:=cg (by simp only[List.forall_mem_cons];exact ⟨qu,Ah,E_,fun _ h=>absurd h (by simp)⟩)
theorem XH:Ax 170=some kW:=rfl
theorem XI:Ax 185=some pD:=rfl
theorem XJ:Ax 257=some lj:=rfl
attribute [local simp] XH XI XJ
def M4 (a L m:Nat) (s:aL):Prop:=∃q o r,o.length=L/\Small o/\(∀j,j<m->aD o j=0)/\r<3/\3*val o+al m*r=al m*(a/al m)/\s.F 3= .ref q 0 L L/\s.F 4=fB r/\fC s.h q o
theorem XK {o o' P B y v q r c d:Nat} (an:o'+P*y=o+P*v) (aQ:y=0) (h:3*o+P*B*c=P*B*q) (a3:c*B+d=3*v+r):3*o'+P*r=P*(d+B*q):=by
 subst aQ
 have e:P*(c*B+d)=P*(3*v+r):=by rw[a3]
 grind
theorem M5 {r x:Nat} (ae:x<4294967296):r*4294967296|||x=r*4294967296+x:=by
 have e:(4294967296:Nat)=2^32:=by decide
 rw[e] at ae|-
 rw[Nat.mul_comm,Nat.two_pow_add_eq_or_of_lt ae]
theorem XL {a o m r x:Nat} (aR:r<3) (ae:x<4294967296) (ji:x=a/al m%4294967296) (an:3*o+al (m+1)*r=al (m+1)*(a/al (m+1))):
 ∃R,r*4294967296=R/\R|||x=R+x/\R+x<18446744073709551616/\(R+x)/3<4294967296/\(R+x)/3<18446744073709551616/\
  ∀o',o'+al m*0=o+al m*((R+x)/3)->3*o'+al m*((R+x)%3)=al m*(a/al m):=by
 refine⟨r*4294967296,rfl,M5 ae,by omega,by omega,by omega,fun o' ay=>?_⟩
 · rw[er] at an
   have:=XK ay rfl an (show r*4294967296+x=3*((r*4294967296+x)/3)+(r*4294967296+x)%3 by omega)
   rw[this,ji,<-er,rA,Nat.mod_add_div]
theorem tp:(Z 0<=(-1:Int))=False:=eq_false (by decide)
theorem Fc:(Z 0<(3:Int))=True:=eq_true (by decide)
theorem Fe:(Z 1<(3:Int))=True:=eq_true (by decide)
theorem Ff:(Z 2<(3:Int))=True:=eq_true (by decide)
noncomputable def tq:List I->Option I:=a9 (fun z:Nat=>(aa z).length<=100000000/\z%3=0) (fun z=>[af z]) (fun z=>af (z/3))
theorem XM (z:Nat) (h:(aa z).length<=100000000/\z%3=0) {args:List I} (he:args.map I.loose= [af z]):tq args=some (af (z/3)):=bk (fun z w h=>by simp only[List.cons.injEq,I.int.injEq,I.bool.injEq,I.sl.injEq,bX,bW,bU,b4,bZ,bq,bE,bY,bj,true_and,and_true] at h;simp[h]) z h he
theorem XN:aH Tryz.prog G 258 tq:=by
 refine bg mixed M3 Lj fun a ar=>?_
 obtain⟨bs,aA⟩:=ar
 have aC:=dD a
 obtain⟨L,bf⟩:∃L,L=(aa a).length:=⟨_,rfl⟩
 have a5:a<al L:=cE.1 (by omega)
 have aT:Z L*4<=140737488355328:=by simp only[Z];omega
 have ti:IntKind.i64.wrap (Z L - Z 1)=ff L:=kb (by omega)
 unfold i258
 refine aK [0,2,3,4,5,13] fun F K=>?_
 obtain⟨f0,f2,f3,f4,f5,f13⟩:=K
 have H:=bM bf.symm aT ti (@Au)
 have K:=c7 f0 f2 f3 f4 f5 f13;clear f0 f2 f3 f4 f5 f13
 refine bA [0,2,3,4,5,13] fun F k=>?_;clear K H
 obtain⟨f0,f2,f3,f4,f5,f13⟩:=k
 refine m3 (fun m s=>m<=L/\M4 a L m s/\s.F 5= .int .i64 (ff m)) (M4 a L 0) (fun _=>False) L ?_ ?_ ?_ (fun _ _ h=>h.elim)
 · refine⟨Nat.le_refl _,⟨_,List.replicate L 0,0,by simp,qt _,fun j _=>xv _ _,by decide,by simp[s6,Nat.div_eq_of_lt a5],f3,f4,⟨by simp[au],by simp,by simp⟩⟩,f5⟩
 · rintro m s ag ⟨hm,⟨q,o,r,iI,fH,ar,aR,an,eE,iE,V⟩,dC⟩
   replace f0:=(ag 0 rfl).trans f0
   clear f3 f4 f5
   have f3:=eE
   have f4:=iE
   have f5:=dC
   have K:=bM f0 f3 f4 f5;clear f0 f3 f4 f5
   refine bO [0,3,4,5,13] fun F k=>?_;clear K
   obtain⟨f0,f3,f4,f5,f13⟩:=k
   cases m with
   | zero=>
     rw[qq] at f5
     have H:=(@tp)
     have K:=bx f0 f3 f4 f5 f13;clear f0 f3 f4 f5 f13
     refine bA [0,3,4,5,13] fun F k=>?_;clear K H
     obtain⟨f0,f3,f4,f5,f13⟩:=k
     exact ⟨q,o,r,iI,fH,ar,aR,an,f3,f4,V.bump _ _ (by omega)⟩
   | succ m=>
     rw[oJ] at f5
     have ae:=aC.aD m
     have nH:=(ka (show m<(aa a).length by omega)).symm
     have vk:=iH a m
     have go:=ko (show m<o.length by omega)
     have sz:=kX (show 0<o.length by omega)
     generalize ji:aD (aa a) m=x at*
     obtain⟨R,sl,j3,EZ,xw,XO,iD⟩:=XL aR ae vk an
     have st:=pF o m ((R+x)/3)
     have dH:=V.cells
     have fq:=V.cc
     have ti:IntKind.i64.wrap (Z m - Z 1)=ff m:=kb (by omega)
     have EA:m<L:=by omega
     clear an vk
     have H:=xk dH fq nH go ji sl j3 EZ XO xw sz st ti EA bf.symm
     have K:=bx f0 f3 f4 f5 f13;clear f0 f3 f4 f5 f13
     refine bA [0,3,4,5,13] fun F k=>?_;clear K H
     obtain⟨f0,f3,f4,f5,f13⟩:=k
     have iJ:=nz ((R+x)/3) (show m<o.length by omega)
     rw[ar m (by omega)] at iJ
     refine⟨m,Nat.lt_succ_self m,by omega,⟨q,o.set m ((R+x)/3),(R+x)%3,by rw[List.length_set];exact iI,nA fH xw,fun j aB=>?_,by omega,iD _ iJ,f3,f4,V.put _ _ _ (by omega)⟩,rfl⟩
     · rw[n6 _ _ (by omega),if_neg (by omega)]
       exact ar j (by omega)
 · rintro s ag ⟨q,o,r,iI,fH,ar,aR,an,eE,iE,V⟩
   rw[fG,Nat.div_one] at an
   have l2:val o=a/3:=by omega
   clear f3 f4 f5
   have f3:=eE
   have dH:=V.cells
   have b':=pA (e:=false) fH (show o.length<=1073741824 by omega)
   rw[l2] at b'
   have eC:=Aw (show o.length<=L by omega)
   have nr:=Av o
   have az:=qA o
   have hle:L<=(bp o).length:=by omega
   have K:=f3;clear f3
   refine bO [2,3] fun F k=>?_;clear K
   obtain⟨f2,f3⟩:=k
   rw[show (o.map fun n=>I.int .u32 (Z n))=bp o from rfl] at b'
   have H:=bx dH b' eC nr hle
   have K:=bw f2 f3;clear f2 f3
   exact a7 [2,3]
noncomputable def Ay:List I->Option I:=a9 (fun z:Nat × Nat=>(aa z.1).length<=1000000000/\(aa z.2).length<=1000000000) (fun z=>[af z.1,af z.2]) (fun z=> .bK [af (if z.1<z.2 then z.2 - z.1 else z.1 - z.2),.bool (decide (z.1<z.2))])
theorem XP (z:Nat × Nat) (h:(aa z.1).length<=1000000000/\(aa z.2).length<=1000000000) {args:List I} (he:args.map I.loose= [af z.1,af z.2]):Ay args=some (.bK [af (if z.1<z.2 then z.2 - z.1 else z.1 - z.2),.bool (decide (z.1<z.2))]):=bk (fun z w h=>by simp only[List.cons.injEq,I.int.injEq,I.bool.injEq,I.sl.injEq,bX,bW,bU,b4,bZ,bq,bE,bY,bj,true_and,and_true] at h;simp[h]) z h he
theorem XQ:aH Tryz.prog G 280 Ay:=by
 refine bg mixed M3 Ls fun z ar=>?_
 obtain⟨a,b⟩:=z
 obtain⟨bs,bp⟩:=ar
 simp only at bs bp|-
 have t:=xE (a:=a) (b:=b) (e:=false) (e':=false) bs bp
 unfold i280
 by_cases h:a<b
 · rw[if_pos h] at t
   have t2:=E9 (b,a) ⟨bp,bs⟩ (args:=[af b,af a]) (by simp)
   simp only at t2
   rw[if_pos h,decide_eq_true h]
   generalize b - a=c at*
   refine aK [0,1,4,5,6,7,14] fun F K=>?_
   obtain⟨f0,f1,f4,f5,f6,f7,f14⟩:=K
   have H:=bw t t2
   have K:=dh f0 f1 f4 f5 f6 f7 f14;clear f0 f1 f4 f5 f6 f7 f14
   exact a7 [0,1,4,5,6,7,14]
 · rw[if_neg h] at t
   rw[if_neg h,decide_eq_false h]
   generalize a - b=c at*
   refine aK [0,1,4,5,6,7,14] fun F K=>?_
   obtain⟨f0,f1,f4,f5,f6,f7,f14⟩:=K
   have H:=t
   have K:=dh f0 f1 f4 f5 f6 f7 f14;clear f0 f1 f4 f5 f6 f7 f14
   exact a7 [0,1,4,5,6,7,14]
noncomputable def Az:FuncId->Option (List I->Option I):=cf [(174,jZ),(172,l_),(280,Ay)]
theorem XR:∀f T,Az f=some T->aH Tryz.prog G f T:=cg (by simp only[List.forall_mem_cons];exact ⟨ve,Ai,XQ,fun _ h=>absurd h (by simp)⟩)
theorem XS:Az 174=some jZ:=rfl
theorem XT:Az 172=some l_:=rfl
theorem XU:Az 280=some Ay:=rfl
attribute [local simp] XS XT XU
def mG (a b c:Nat):Nat:=if a+c<b then b -(a+c) else a+c - b
noncomputable def vq:List I->Option I:=a9 (fun z:Nat × Nat × Nat=>(aa z.1).length<=10000000/\(aa z.2.1).length<=10000000/\(aa z.2.2).length<=10000000) (fun z=>[.agg [af z.1,af z.2.1,af z.2.2]]) (fun z=> .bK [af (z.1+z.2.2+z.2.1),af (mG z.1 z.2.1 z.2.2),af (z.1+(z.2.1*2^1+z.2.2*2^2)),.bool (decide (z.1+z.2.2<z.2.1))])
theorem M6 (z:Nat × Nat × Nat) (h:(aa z.1).length<=10000000/\(aa z.2.1).length<=10000000/\(aa z.2.2).length<=10000000) {args:List I} (he:args.map I.loose= [.agg [af z.1,af z.2.1,af z.2.2]]):vq args=some (.bK [af (z.1+z.2.2+z.2.1),af (mG z.1 z.2.1 z.2.2),af (z.1+(z.2.1*2^1+z.2.2*2^2)),.bool (decide (z.1+z.2.2<z.2.1))]):=bk (fun z w h=>by simp only[I.agg.injEq,List.cons.injEq,I.int.injEq,I.bool.injEq,I.sl.injEq,bX,bW,bU,b4,bZ,bq,bE,bY,bj,true_and,and_true] at h;simp[h]) z h he
theorem XV:aH Tryz.prog G 256 vq:=by
 refine bg mixed XR Lh fun z ar=>?_
 obtain⟨a,b,c⟩:=z
 obtain⟨bs,bp,lc⟩:=ar
 simp only at bs bp lc|-
 have ajz:=kA a c
 have t1:=nE (a:=a) (b:=c) (e:=false) (e':=false) (by omega) (by omega)
 have t2:=nE (a:=a+c) (b:=b) (e:=false) (e':=false) (by omega) (by omega)
 have t3:=XP (a+c,b) ⟨by simp only;omega,by simp only;omega⟩ (args:=[af (a+c),af b]) (by simp)
 have t4:=tf (a:=b) (n:=1) (e:=false) (by omega) (by omega)
 have t5:=tf (a:=c) (n:=2) (e:=false) (by omega) (by omega)
 have lk:=kV b (2^1)
 have M7:=kV c (2^2)
 have mr:(aa (2^1)).length<=1:=cE.2 (by rw[lU];decide)
 have ku:(aa (2^2)).length<=1:=cE.2 (by rw[lU];decide)
 have ajA:=kA (b*2^1) (c*2^2)
 have t6:=nE (a:=b*2^1) (b:=c*2^2) (e:=false) (e':=false) (by omega) (by omega)
 have t7:=nE (a:=a) (b:=b*2^1+c*2^2) (e:=false) (e':=false) (by omega) (by omega)
 simp only at t3
 rw[show (if a+c<b then b -(a+c) else a+c - b)=mG a b c from rfl] at t3
 generalize decide (a+c<b)=neg at*
 generalize mG a b c=M8 at*
 generalize a+(b*2^1+c*2^2)=b8 at*
 generalize b*2^1+c*2^2=bQ at*
 generalize b*2^1=cF at*
 generalize c*2^2=cY at*
 generalize a+c+b=k6 at*
 generalize a+c=m1 at*
 unfold i256
 refine aK [0,1,2,3,4,5,6] fun F K=>?_
 obtain⟨f0,f1,f2,f3,f4,f5,f6⟩:=K
 have H:=kl (@Fc) (@Fe) (@Ff) t1 t2 t3 t4 t5 t6 t7
 have K:=dh f0 f1 f2 f3 f4 f5 f6;clear f0 f1 f2 f3 f4 f5 f6
 exact a7 [0,1,2,3,4,5,6]
end
end
section
set_option maxHeartbeats 8000000
open Go Go.Eng Go.RowKit
def two (ab cw:Nat):Nat:=ab*4294967296+cw
theorem Fg {ab cw:Nat} (h:ab<4294967296) (h2:cw<4294967296):∃R,ab*4294967296=R/\R|||cw=two ab cw/\R<18446744073709551616/\two ab cw<18446744073709551616:=
 ⟨_,rfl,M5 h2,by omega,by simp only[two];omega⟩
theorem M9 {ab cw y:Nat} (h:ab<y) (h2:cw<4294967296) (aQ:y<4294967296):two ab cw/y<4294967296/\two ab cw%y<4294967296:=by
 refine⟨?_,Nat.lt_trans (Nat.mod_lt _ (by omega)) aQ⟩
 rw[Nat.div_lt_iff_lt_mul (by omega),two]
 have aA:(ab+1)*4294967296<=y*4294967296:=Nat.mul_le_mul_right _ h
 rw[Nat.add_mul] at aA
 rw[Nat.mul_comm 4294967296]
 omega
def ma (x2 x1 x0 y1 y0:Nat):Nat:=min (two (two x2 x1) x0/two y1 y0) 4294967295
theorem M_ {x2 x1 x0 y1 y0:Nat}:ma x2 x1 x0 y1 y0<=4294967295:=Nat.min_le_right _ _
theorem XW {q r y1 y0 x2 x1 x0:Nat} (aM:q*y1+r=two x2 x1) (h:q*y0<=two r x0):q*two y1 y0<=two (two x2 x1) x0:=by
 rw[<-aM];simp only[two] at*;grind
theorem XX {q r y1 y0 x2 x1 x0:Nat} (aM:q*y1+r=two x2 x1) (h:two r x0<q*y0):two (two x2 x1) x0<q*two y1 y0:=by
 rw[<-aM];simp only[two] at*;grind
theorem M' {q r y1 y0 x2 x1 x0:Nat} (aQ:y1≠0) (aM:q*y1+r=two x2 x1) (p6:ma x2 x1 x0 y1 y0<=q) (U:q<4294967296) (h:q*y0<=two r x0):q=ma x2 x1 x0 y1 y0:=by
 have h2:q<=two (two x2 x1) x0/two y1 y0:=(Nat.le_div_iff_mul_le (by simp only[two];omega)).2 (XW aM h)
 unfold ma at*;omega
theorem XY {q r y1 y0 x2 x1 x0:Nat} (aQ:y1≠0) (aM:q*y1+r=two x2 x1) (h:4294967296<=q\/two r x0<q*y0):ma x2 x1 x0 y1 y0<=q - 1/\1<=q:=by
 rcases h with h|h
 · have:=M_ (x2:=x2) (x1:=x1) (x0:=x0) (y1:=y1) (y0:=y0);omega
 · have h2:two (two x2 x1) x0/two y1 y0<q:=(Nat.div_lt_iff_lt_mul (by simp only[two];omega)).2 (XX aM h)
   unfold ma
   generalize two (two x2 x1) x0/two y1 y0=d at*
   omega
theorem XZ {q r y1 y0 x2 x1 x0:Nat} (aQ:y1≠0) (ae:x2<=y1) (X0:x1<4294967296) (j5:y0<4294967296) (aM:q*y1+r=two x2 x1) (p6:ma x2 x1 x0 y1 y0<=q) (aR:4294967296<=r):q=ma x2 x1 x0 y1 y0:=by
 have U:q*y1<4294967296*y1:=by
  have:x2*4294967296<=y1*4294967296:=Nat.mul_le_mul_right _ ae
  simp only[two] at aM
  rw[Nat.mul_comm 4294967296]
  omega
 have h2:q<4294967296:=Nat.lt_of_mul_lt_mul_right U
 refine M' aQ aM p6 h2 ?_
 have aA:q*y0<=4294967295*4294967295:=Nat.mul_le_mul (by omega) (by omega)
 simp only[two]
 omega
theorem X1 {y1 x2 x1 x0 y0:Nat} (aQ:y1≠0) (ji:x0<4294967296):ma x2 x1 x0 y1 y0<=two x2 x1/y1:=by
 have a3:=Nat.div_add_mod (two x2 x1) y1
 have hm:=Nat.mod_lt (two x2 x1) (Nat.pos_of_ne_zero aQ)
 have:two (two x2 x1) x0/two y1 y0<two x2 x1/y1+1:=by
  generalize two x2 x1=t at*
  rw[Nat.div_lt_iff_lt_mul (by simp only[two];omega)]
  generalize t/y1=q at*
  generalize t%y1=r at*
  subst a3
  simp only[two]
  have e:(q+1)*(y1*4294967296+y0)=q*y1*4294967296+y1*4294967296+(q+1)*y0:=by grind
  have av:(r+1)*4294967296<=y1*4294967296:=Nat.mul_le_mul_right _ hm
  rw[e,Nat.mul_comm y1 q]
  rw[Nat.add_mul] at av
  rw[Nat.add_mul]
  omega
 unfold ma;omega
end
section
set_option maxHeartbeats 8000000
open Go Go.Eng Go.RowKit
attribute [local simp] aU.m aU.o aU.n aU.g e7 ew cT cB cX evalOp.eq_1 evalOp.eq_2 evalOp.eq_3 evalOp.eq_4 evalOp.eq_5 evalOp.eq_6 evalOp.eq_7 evalOp.eq_8 evalOp.eq_9 evalOp.eq_10 evalOp.eq_11 evalOp.eq_12 evalOp.eq_13 evalOp.eq_14 evalOp.eq_15 evalOp.eq_16 evalOp.eq_17 evalOp.eq_18 evalOp.eq_19 evalOp.eq_20 evalOp.eq_21 evalOp.eq_22 evalOp.eq_23 evalOp.eq_24 evalOp.eq_25 evalOp.eq_27 evalOp.eq_28 evalOp.eq_29 ig aS.ev cA au ah.new dQ I.cells I.cd I.dP I.ea gl gn gm gp gr gq hB hC hD fw fx cut partOf bound elems hF hG hH hI hJ hK hL hM hN hO hP hQ fF hR hS hT hU hV hW hX hY hZ h0 h1 h3 h4 h5 h6 h7 h8 h9 h_ ia ib ic ie eu eh dJ eY gu fM ah.close ah.set gf ih ij ik hE fN e8 eS dt e1 f' ft e2 ga gb gd eV eW eX eU gv bj fZ gw f_ gx gy eQ gz eR gA gB gC fs hA gD gE gF gG gH gI gJ gK gL gM gN gO gP gQ gR gS gT gU gV fz gW gX gY gZ g0 g1 g2 g3 g4 g5 g6 g7 g8 g9 g_
attribute [local simp high] hx hy hz g' ha hb hc hd hf hg hh hi hj hk hl hn ho hp hq hr hs ht hv
attribute [local simp] aG List.getElem?_cons_zero List.getElem?_cons_succ dw cM fe Nat.mod_eq_of_lt iw ix iy iz fk iA iB iC
section
attribute [local irreducible] ba
attribute [local simp] cW cI ct
noncomputable def Na:FuncId->Option (List I->Option I):=cf [(266,Ac)]
theorem Fh:∀f T,Na f=some T->aH Tryz.prog G f T:=cg (by simp only[List.forall_mem_cons];exact ⟨We,fun _ h=>absurd h (by simp)⟩)
theorem X2:Na 266=some Ac:=rfl
attribute [local simp] X2
noncomputable def AA:List I->Option I:=a9 (fun z:Nat × Nat × Nat=>z.1<z.2.2/\z.2.1<4294967296/\z.2.2<4294967296) (fun z=>[bo z.1,bo z.2.1,bo z.2.2]) (fun z=> .bK [bo (two z.1 z.2.1/z.2.2),bo (two z.1 z.2.1%z.2.2)])
theorem X3 (z:Nat × Nat × Nat) (h:z.1<z.2.2/\z.2.1<4294967296/\z.2.2<4294967296) {args:List I} (he:args.map I.loose= [bo z.1,bo z.2.1,bo z.2.2]):AA args=some (.bK [bo (two z.1 z.2.1/z.2.2),bo (two z.1 z.2.1%z.2.2)]):=bk (fun z w h=>by simp only[List.cons.injEq,I.int.injEq,I.bool.injEq,I.sl.injEq,bX,bW,bU,b4,bZ,bq,bE,bY,bj,true_and,and_true] at h;simp[h]) z h he
theorem X4:aH Tryz.prog G 282 AA:=by
 refine bg mixed Fh Lu fun z ar=>?_
 obtain⟨ab,cw,y⟩:=z
 obtain⟨U,h2,aA⟩:=ar
 simp only at U h2 aA|-
 obtain⟨R,e0,j3,b1,eo⟩:=Fg (show ab<4294967296 by omega) h2
 obtain⟨d1,d2⟩:=M9 U h2 aA
 have aQ:¬y=0:=by omega
 have xP:0<y:=by omega
 have d3:two ab cw/y<18446744073709551616:=by omega
 have d4:y<18446744073709551616:=by omega
 generalize two ab cw=w at*
 unfold i282
 refine aK [0,1,2,6,7,8,15] fun F K=>?_
 obtain⟨f0,f1,f2,f6,f7,f8,f15⟩:=K
 have H:=kS U aQ xP e0 j3 b1 eo d1 d2 d3 d4
 have K:=dh f0 f1 f2 f6 f7 f8 f15;clear f0 f1 f2 f6 f7 f8 f15
 exact a7 [0,1,2,6,7,8,15]
noncomputable def AB:List I->Option I:=a9 (fun z:Nat=>z<4294967296) (fun z=>[bo z]) (fun z=>aJ (32 - dY z))
theorem X5 (z:Nat) (h:z<4294967296) {args:List I} (he:args.map I.loose= [bo z]):AB args=some (aJ (32 - dY z)):=bk (fun z w h=>by simp only[List.cons.injEq,I.int.injEq,I.bool.injEq,I.sl.injEq,bX,bW,bU,b4,bZ,bq,bE,bY,bj,true_and,and_true] at h;simp[h]) z h he
theorem X6:aH Tryz.prog G 260 AB:=by
 refine bg mixed Fh Ll fun n ak=>?_
 have t:=Wd (n:=n) ak
 have ad:dY n<=32:=pz.2 ak
 have hw:IntKind.i64.wrap (Z 32 - Z (dY n))=Z (32 - dY n):=cM ad (by decide)
 unfold i260
 refine aK [0,2] fun F K=>?_
 obtain⟨f0,f2⟩:=K
 have H:=bw t hw
 have K:=bw f0 f2;clear f0 f2
 exact a7 [0,2]
noncomputable def vr:List I->Option I:=a9 (fun z:Nat × Nat × Nat × Nat × Nat=>z.1<=z.2.2.2.1/\z.2.1<4294967296/\z.2.2.1<4294967296/\z.2.2.2.1<4294967296/\z.2.2.2.2<4294967296/\z.2.2.2.1≠0) (fun z=>[bo z.1,bo z.2.1,bo z.2.2.1,bo z.2.2.2.1,bo z.2.2.2.2]) (fun z=>fB (ma z.1 z.2.1 z.2.2.1 z.2.2.2.1 z.2.2.2.2))
theorem X7 (z:Nat × Nat × Nat × Nat × Nat) (h:z.1<=z.2.2.2.1/\z.2.1<4294967296/\z.2.2.1<4294967296/\z.2.2.2.1<4294967296/\z.2.2.2.2<4294967296/\z.2.2.2.1≠0) {args:List I} (he:args.map I.loose= [bo z.1,bo z.2.1,bo z.2.2.1,bo z.2.2.2.1,bo z.2.2.2.2]):vr args=some (fB (ma z.1 z.2.1 z.2.2.1 z.2.2.2.1 z.2.2.2.2)):=bk (fun z w h=>by simp only[List.cons.injEq,I.int.injEq,I.bool.injEq,I.sl.injEq,bX,bW,bU,b4,bZ,bq,bE,bY,bj,true_and,and_true] at h;simp[h]) z h he
theorem X8:aH Tryz.prog G 261 vr:=by
 refine bg mixed Fh Lm fun z ar=>?_
 obtain⟨x2,x1,x0,y1,y0⟩:=z
 obtain⟨h2,U,p9,bu,je,aQ⟩:=ar
 simp only at h2 U p9 bu je aQ|-
 obtain⟨R,e0,j3,b1,eo⟩:=Fg (show x2<4294967296 by omega) U
 have X9:=X1 (x2:=x2) (x1:=x1) (y0:=y0) aQ p9
 have gs:=fun q r=>M' (q:=q) (r:=r) (x2:=x2) (x1:=x1) (x0:=x0) (y0:=y0) aQ
 have X_:=fun q r=>XY (q:=q) (r:=r) (x2:=x2) (x1:=x1) (x0:=x0) (y0:=y0) aQ
 have pE:=fun q r=>XZ (q:=q) (r:=r) (x2:=x2) (x1:=x1) (x0:=x0) (y0:=y0) aQ h2 U je
 generalize ma x2 x1 x0 y1 y0=Nb at*
 generalize two x2 x1=w at*
 have xP:0<y1:=by omega
 have d4:y1<18446744073709551616:=by omega
 have vg:=Nat.div_le_self w y1
 have Nc:=Nat.mod_lt w xP
 have X':=Nat.div_add_mod w y1
 have d5:w/y1<18446744073709551616:=by omega
 unfold i261
 refine aK [0,1,2,3,4,10,11,12,13,41,49] fun F K=>?_
 obtain⟨f0,f1,f2,f3,f4,f10,f11,f12,f13,f41,f49⟩:=K
 have H:=e9 aQ xP e0 j3 b1 eo d4 d5
 have K:=kS f0 f1 f2 f3 f4 f10 f11 f12 f13 f41 f49;clear f0 f1 f2 f3 f4 f10 f11 f12 f13 f41 f49
 refine bA [0,1,2,3,4,10,11,12,13,41,49] fun F k=>?_;clear K H
 obtain⟨f0,f1,f2,f3,f4,f10,f11,f12,f13,f41,f49⟩:=k
 refine m3 (fun q s=>∃r,q*y1+r=w/\Nb<=q/\r<4294967296/\s.F 12=fB q/\s.F 13=fB r) (fun s=>s.F 12=fB Nb) (fun _=>False) (w/y1) ?_ ?_ ?_ (fun _ _ h=>h.elim)
 · exact ⟨w%y1,by rw[Nat.mul_comm];exact X',X9,by omega,f12,f13⟩
 · clear e0 j3 b1
   rintro q s ag ⟨r,aM,p6,aR,mb,xQ⟩
   replace f2:=(ag 2 rfl).trans f2;replace f3:=(ag 3 rfl).trans f3;replace f4:=(ag 4 rfl).trans f4
   clear f12 f13
   have f12:=mb
   have f13:=xQ
   obtain⟨ajB,Fi,dz,k4,Fj⟩:=Fg aR p9
   have ajC:q<18446744073709551616:=by
    have:q*1<=q*y1:=Nat.mul_le_mul_left q xP
    omega
   have Fk:y0<18446744073709551616:=by omega
   have s1:=gs q r aM p6
   have s2:=X_ q r aM
   generalize two r x0=v at*
   have main:(q<4294967296/\q*y0<=v)\/(4294967296<=q\/(q<4294967296/\v<q*y0)):=by omega
   have Fl:q<4294967296->q*y0<18446744073709551616:=fun h=>by
    have:q*y0<=4294967295*4294967295:=Nat.mul_le_mul (by omega) (by omega)
    omega
   have K:=bx f2 f3 f4 f12 f13;clear f2 f3 f4 f12 f13
   refine bO [2,3,4,12,13,41,49] fun F k=>?_;clear K
   obtain⟨f2,f3,f4,f12,f13,f41,f49⟩:=k
   rcases main with⟨cC,dk⟩|main
   · have e:=s1 cC dk
     have xR:=Fl cC
     generalize xS:q*y0=Nd at*
     have H:=fO Fi dz k4 Fj xS cC dk xR Fk
     have K:=dh f2 f3 f4 f12 f13 f41 f49;clear f2 f3 f4 f12 f13 f41 f49
     refine bA [2,3,4,12,13,41,49] fun F k=>?_;clear K H
     obtain⟨f2,f3,f4,f12,f13,f41,f49⟩:=k
     first|exact e|(rw[f12,e])
   · obtain⟨jh,mF⟩:=s2 (by omega)
     have aq:(q+18446744073709551615)%18446744073709551616=q - 1:=by omega
     have av:r+y1<18446744073709551616:=by omega
     have kv:(q - 1)*y1+(r+y1)=w:=by
      rw[<-aM]
      obtain⟨p,rfl⟩:∃p,q=p+1:=⟨q - 1,by omega⟩
      rw[Nat.add_sub_cancel,Nat.add_mul];omega
     by_cases xT:4294967296<=r+y1
     · have e:=pE (q - 1) (r+y1) kv jh xT
       rcases main with cC|⟨cC,dk⟩
       · skip
         have H:=bx cC aq av xT d4
         have K:=dh f2 f3 f4 f12 f13 f41 f49;clear f2 f3 f4 f12 f13 f41 f49
         refine bA [2,3,4,12,13,41,49] fun F k=>?_;clear K H
         obtain⟨f2,f3,f4,f12,f13,f41,f49⟩:=k
         first|exact e|(rw[f12,e])
       · have xR:=Fl cC
         generalize xS:q*y0=Nd at*
         have H:=kT Fi dz k4 Fj xS cC dk xR Fk aq av xT d4
         have K:=dh f2 f3 f4 f12 f13 f41 f49;clear f2 f3 f4 f12 f13 f41 f49
         refine bA [2,3,4,12,13,41,49] fun F k=>?_;clear K H
         obtain⟨f2,f3,f4,f12,f13,f41,f49⟩:=k
         first|exact e|(rw[f12,e])
     · rcases main with cC|⟨cC,dk⟩
       · skip
         have H:=bx cC aq av xT d4
         have K:=dh f2 f3 f4 f12 f13 f41 f49;clear f2 f3 f4 f12 f13 f41 f49
         refine bA [2,3,4,12,13,41,49] fun F k=>?_;clear K H
         obtain⟨f2,f3,f4,f12,f13,f41,f49⟩:=k
         exact ⟨q - 1,by omega,r+y1,kv,jh,by omega,by first|rfl|exact f12,by first|rfl|exact f13⟩
       · have xR:=Fl cC
         generalize xS:q*y0=Nd at*
         have H:=kT Fi dz k4 Fj xS cC dk xR Fk aq av xT d4
         have K:=dh f2 f3 f4 f12 f13 f41 f49;clear f2 f3 f4 f12 f13 f41 f49
         refine bA [2,3,4,12,13,41,49] fun F k=>?_;clear K H
         obtain⟨f2,f3,f4,f12,f13,f41,f49⟩:=k
         exact ⟨q - 1,by omega,r+y1,kv,jh,by omega,by first|rfl|exact f12,by first|rfl|exact f13⟩
 · rintro s ag mb
   clear f12 f13
   have f12:=mb
   have K:=f12;clear f12
   refine bO [10,12] fun F k=>?_;clear K
   obtain⟨f10,f12⟩:=k
   have H:=trivial
   have K:=bw f10 f12;clear f10 f12
   exact a7 [10,12]
end
end
end Go.Proofs.YtemiagcencajeaaGreatDoor
