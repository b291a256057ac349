/- What the claim needs of the walks, put together by a program (shake.py). -/
import Derived.Test.YtemiagcencajeaaGreatDoorXmD
set_option maxRecDepth 100000
set_option linter.unusedSimpArgs false
set_option linter.unusedVariables false
set_option linter.unusedSectionVars false
namespace Go.Proofs.YtemiagcencajeaaGreatDoor
section
set_option maxHeartbeats 8000000
open Go Go.Eng Go.RowKit
attribute [local simp] aY.m aY.o aY.n aY.g fg eF cV cJ c4 evalOp.eq_1 evalOp.eq_2 evalOp.eq_3 evalOp.eq_4 evalOp.eq_5 evalOp.eq_6 evalOp.eq_7 evalOp.eq_8 evalOp.eq_9 evalOp.eq_10 evalOp.eq_11 evalOp.eq_12 evalOp.eq_13 evalOp.eq_14 evalOp.eq_15 evalOp.eq_16 evalOp.eq_17 evalOp.eq_18 evalOp.eq_19 evalOp.eq_20 evalOp.eq_21 evalOp.eq_22 evalOp.eq_23 evalOp.eq_24 evalOp.eq_25 evalOp.eq_27 evalOp.eq_28 evalOp.eq_29 iK aR.ev cI ar ai.new ec I.cells I.cb I.eb I.ei gL gN gM gO gQ gP hY hZ h0 fM fN cut partOf bound elems h4 h5 h6 h7 h8 h9 h_ ia ib ic ie ig gh ih ij ik il im iq ir iu iv iw ix iy iz iA iB iC iD iE iF iG iH iI iJ eE eo dZ e6 gR gf ai.close ai.set gy iL iM iN h3 gg fh eY dv e8 gu fQ e9 gv gw gx e3 e4 e5 e2 gS bp gq gT gr gU gV eW gW eX gX gY gZ fG hX g0 g1 g2 g3 g4 g5 g6 g7 g8 g9 g_ g' ha hb hc hd hf hg hh fP hi hj hk hl hn ho hp hq hr hs ht hv hx hy hz
attribute [local simp high] hU hV hW hA hB hC hD hE hF hG hH hI hJ hK hL hM hN hO hP hQ hR hS hT
attribute [local simp] aF List.getElem?_cons_zero List.getElem?_cons_succ dD cQ fq Nat.mod_eq_of_lt iV iW iX iY fz iZ i_ i'
section
attribute [local irreducible] a'
attribute [local simp] c2 cN cq
def fK (z:Int):Int:=if z=0 then 0 else if z<0 then -1 else 1
theorem o9 {a:Int} {k:Nat}:aJ a<=k↔a.natAbs<aj k:=cu
theorem wO (a:Int):aJ (-a)=aJ a:=by simp[aJ]
theorem p_ (a b:Int):aJ (a+b)<=max (aJ a) (aJ b)+1:=by
 have U:(a+b).natAbs<=a.natAbs+b.natAbs:=Int.natAbs_add_le a b
 have h2:=ki a.natAbs b.natAbs
 have aB:=fB U
 simp only[aJ] at*;omega
theorem VG (a b:Int):aJ (a - b)<=max (aJ a) (aJ b)+1:=by
 have:=p_ a (-b)
 rw[wO] at this
 rwa [Int.sub_eq_add_neg]
theorem kb (a b:Int):aJ (a*b)<=aJ a+aJ b:=by
 have:=kE a.natAbs b.natAbs
 rwa [<-Int.natAbs_mul] at this
theorem zp (b:Bool) (n:Nat):aJ (c3 b n)=(aa n).length:=by rw[aJ,Dx]
noncomputable def LG:FuncId->Option (List I->Option I):=cf [(170,kG)]
theorem VH:∀f T,LG f=some T->aG Tryz.prog G f T:=cg (by simp only[List.forall_mem_cons];exact ⟨p7,fun _ h=>absurd h (by simp)⟩)
theorem VI:LG 170=some kG:=rfl
attribute [local simp] VI
noncomputable def nb:List I->Option I:=a7 (fun z:Bool × List Nat=>Small z.2/\z.2.length<=1073741824) (fun z=>[.bool z.1,bV z.2 false]) (fun z=>ao (c3 z.1 (val z.2)))
theorem VJ (z:Bool × List Nat) (h:Small z.2/\z.2.length<=1073741824) {args:List I} (he:args.map I.loose= [.bool z.1,bV z.2 false]):nb args=some (ao (c3 z.1 (val z.2))):=bk (fun z w h=>by simp only[List.cons.injEq,I.int.injEq,I.bool.injEq,I.sl.injEq,b4,bZ,bX,b_,b9,bz,bI,b8,bp,true_and,and_true] at h;simp[h]) z h he
theorem wP:aG Tryz.prog G 84 nb:=by
 refine bj mixed VH Jj fun z av=>?_
 obtain⟨b,l⟩:=z
 obtain⟨aw,az⟩:=av
 simp only at aw az|-
 have t:=o5 (e:=false) aw az
 have bJ:=zj b (val l)
 have ch:=Dx b (val l)
 unfold i84
 by_cases al:val l=0
 · have ak:aa (val l)= []:=jn.2 al
   have a3:decide (val l≠0)=false:=decide_eq_false (fun h=>h al)
   rw[a3] at bJ
   cases b
   · skip
     refine aM [0,1,4,5] fun F K=>?_
     obtain⟨f0,f1,f4,f5⟩:=K
     have H:=br t ak
     have K:=bK f0 f1 f4 f5;clear f0 f1 f4 f5
     repeat' (first|refine dE ?_|refine dF ?_|((first|refine et ?_|refine eu ?_|refine ew ?_|exact dH|refine dG ?_);try(refine d' [0,1,4,5] fun F k=>?_;replace K:=k;clear k))|(refine dI (fun J=>?_) (fun J=>?_)<;>first|(exfalso;simp(disch:=omega) [H] at J;done)|(exfalso;simp at J;omega)|simp at J)|((first|refine bU ?_|refine c5 ?_);simp(disch:=omega) [H,K,bJ,ch])|exact trivial)
     all_goals obtain⟨f0,f1,f4,f5⟩:=K
   · skip
     refine aM [0,1,4,5] fun F K=>?_
     obtain⟨f0,f1,f4,f5⟩:=K
     have H:=br t ak
     have K:=bK f0 f1 f4 f5;clear f0 f1 f4 f5
     repeat' (first|refine dE ?_|refine dF ?_|((first|refine et ?_|refine eu ?_|refine ew ?_|exact dH|refine dG ?_);try(refine d' [0,1,4,5] fun F k=>?_;replace K:=k;clear k))|(refine dI (fun J=>?_) (fun J=>?_)<;>first|(exfalso;simp(disch:=omega) [H] at J;done)|(exfalso;simp at J;omega)|simp at J)|((first|refine bU ?_|refine c5 ?_);simp(disch:=omega) [H,K,bJ,ch])|exact trivial)
     all_goals obtain⟨f0,f1,f4,f5⟩:=K
 · have ak:0<(aa (val l)).length:=lr.2 al
   have ka:¬aa (val l)= []:=fun h=>al (jn.1 h)
   have a3:decide (val l≠0)=true:=decide_eq_true al
   rw[a3] at bJ
   cases b
   · skip
     refine aM [0,1,4,5] fun F K=>?_
     obtain⟨f0,f1,f4,f5⟩:=K
     have H:=br t ak
     have K:=bK f0 f1 f4 f5;clear f0 f1 f4 f5
     repeat' (first|refine dE ?_|refine dF ?_|((first|refine et ?_|refine eu ?_|refine ew ?_|exact dH|refine dG ?_);try(refine d' [0,1,4,5] fun F k=>?_;replace K:=k;clear k))|(refine dI (fun J=>?_) (fun J=>?_)<;>first|(exfalso;simp(disch:=omega) [H] at J;done)|(exfalso;simp at J;omega)|simp at J)|((first|refine bU ?_|refine c5 ?_);simp(disch:=omega) [H,K,bJ,ch])|exact trivial)
     all_goals obtain⟨f0,f1,f4,f5⟩:=K
   · skip
     refine aM [0,1,4,5] fun F K=>?_
     obtain⟨f0,f1,f4,f5⟩:=K
     have H:=b3 t ak ka
     have K:=bK f0 f1 f4 f5;clear f0 f1 f4 f5
     repeat' (first|refine dE ?_|refine dF ?_|((first|refine et ?_|refine eu ?_|refine ew ?_|exact dH|refine dG ?_);try(refine d' [0,1,4,5] fun F k=>?_;replace K:=k;clear k))|(refine dI (fun J=>?_) (fun J=>?_)<;>first|(exfalso;simp(disch:=omega) [H] at J;done)|(exfalso;simp at J;omega)|simp at J)|((first|refine bU ?_|refine c5 ?_);simp(disch:=omega) [H,K,bJ,ch])|exact trivial)
     all_goals obtain⟨f0,f1,f4,f5⟩:=K
theorem mA {b:Bool} {n:Nat} (h:(aa n).length<=1073741824):nb [.bool b,af n]=some (ao (c3 b n)):=by
 rw[VJ (b,aa n) ⟨dp n,h⟩ (by simp),cq]
noncomputable def sG:FuncId->Option (List I->Option I):=cf [(84,nb),(180,zo),(171,nI),(174,jE),(185,o8),(209,DE)]
theorem zq:∀f T,sG f=some T->aG Tryz.prog G f T:=cg (by simp only[List.forall_mem_cons];exact ⟨wP,VE,wF,ux,zh,VF,fun _ h=>absurd h (by simp)⟩)
theorem VK:sG 84=some nb:=rfl
theorem VL:sG 180=some zo:=rfl
theorem VM:sG 171=some nI:=rfl
theorem VN:sG 174=some jE:=rfl
theorem VO:sG 185=some o8:=rfl
theorem VP:sG 209=some DE:=rfl
attribute [local simp] VK VL VM VN VO VP
noncomputable def q1:List I->Option I:=a7 (fun z:Int=> -9223372036854775808<=z/\z<9223372036854775808) (fun z=>[.int .i64 z]) (fun z=>ao z)
theorem LH (z:Int) (h: -9223372036854775808<=z/\z<9223372036854775808) {args:List I} (he:args.map I.loose= [.int .i64 z]):q1 args=some (ao z):=bk (fun z w h=>by simp only[List.cons.injEq,I.int.injEq,I.bool.injEq,I.sl.injEq,b4,bZ,bX,b_,b9,bz,bI,b8,bp,true_and,and_true] at h;simp[h]) z h he
theorem DF:aG Tryz.prog G 110 q1:=by
 refine bj mixed zq Jy fun z av=>?_
 unfold i110
 have az:∀n,n<18446744073709551616->(aa n).length<=2:=fun n h=>cu.2 (by simp only[ea,fk];omega)
 by_cases aF:z<0
 · obtain⟨n,ak⟩:∃n:Nat,z= -(n:Int):=⟨z.natAbs,by omega⟩
   have t1:=LF n (by omega) (args:=[e_ n]) (by simp)
   have t2:=mA (b:=true) (n:=n) (by have:=az n (by omega);omega)
   rw[show c3 true n=z by simp[c3,ak]] at t2
   have aq:IntKind.i64.wrap (z+Z 1)=z+1:=wrap_i64 (by simp only[Z];omega) (by simp only[Z];omega)
   have au:IntKind.i64.wrap (-(z+1))=Z (n - 1):=by rw[wrap_i64 (by omega) (by omega)];simp only[Z];omega
   have aV:n - 1+1=n:=by omega
   have bR:n<18446744073709551616:=by omega
   have eS:n - 1<18446744073709551616:=by omega
   have k_:(z<Z 0)=True:=eq_true aF
   refine aM [0,2,4] fun F K=>?_
   obtain⟨f0,f2,f4⟩:=K
   have H:=fi t1 t2 aq au aV bR eS k_
   have K:=b3 f0 f2 f4;clear f0 f2 f4
   exact a9 [0,2,4]
 · obtain⟨n,ak⟩:∃n:Nat,z=n:=⟨z.natAbs,by omega⟩
   have t1:=LF n (by omega) (args:=[e_ n]) (by simp)
   have t2:=mA (b:=false) (n:=n) (by have:=az n (by omega);omega)
   rw[show c3 false n=z by simp[c3,ak]] at t2
   have bR:IntKind.u64.wrap z=Z n:=by
    have:=fP n
    rw[ak];simp only[Z] at this|-;rw[this,Nat.mod_eq_of_lt (by omega)]
   have k_:(z<Z 0)=False:=eq_false aF
   refine aM [0,2,4] fun F K=>?_
   obtain⟨f0,f2,f4⟩:=K
   have H:=bK t1 t2 bR k_
   have K:=b3 f0 f2 f4;clear f0 f2 f4
   exact a9 [0,2,4]
noncomputable def o_:List I->Option I:=a7 (fun z:Int=>True) (fun z=>[ao z]) (fun z=> .int .i64 (fK z))
theorem zr (z:Int) (h:True) {args:List I} (he:args.map I.loose= [ao z]):o_ args=some (.int .i64 (fK z)):=bk (fun z w h=>by simp only[List.cons.injEq,I.int.injEq,I.bool.injEq,I.sl.injEq,b4,bZ,bX,b_,b9,bz,bI,b8,bp,true_and,and_true] at h;simp[h]) z h he
theorem zt:aG Tryz.prog G 87 o_:=by
 refine bj mixed zq Jl fun z _=>?_
 unfold i87
 by_cases aF:z=0
 · subst aF
   have dq:aa 0= []:=eD
   have dS:a5 0=false:=rfl
   have e:fK 0=Z 0:=rfl
   refine aM [0,1,2,3,8] fun F K=>?_
   obtain⟨f0,f1,f2,f3,f8⟩:=K
   have H:=br dq dS
   have K:=bA f0 f1 f2 f3 f8;clear f0 f1 f2 f3 f8
   repeat' (first|refine dE ?_|refine dF ?_|((first|refine et ?_|refine eu ?_|refine ew ?_|exact dH|refine dG ?_);try(refine d' [0,1,2,3,8] fun F k=>?_;replace K:=k;clear k))|(refine dI (fun J=>?_) (fun J=>?_)<;>first|(exfalso;simp(disch:=omega) [H] at J;done)|(exfalso;simp at J;omega)|simp at J)|((first|refine bU ?_|refine c5 ?_);simp(disch:=omega) [H,K,e])|exact trivial)
   all_goals obtain⟨f0,f1,f2,f3,f8⟩:=K
 · have ak:¬aa z.natAbs= []:=fun h=>aF (by have:=jn.1 h;omega)
   have ka:¬(aa z.natAbs).length=0:=fun h=>ak (List.length_eq_zero_iff.1 h)
   by_cases U:z<0
   · have e:fK z= -1:=by simp[fK,aF,U]
     have av:a5 z=true:=by simp[a5,U]
     refine aM [0,1,2,3,8] fun F K=>?_
     obtain⟨f0,f1,f2,f3,f8⟩:=K
     have H:=b3 ak ka av
     have K:=bA f0 f1 f2 f3 f8;clear f0 f1 f2 f3 f8
     repeat' (first|refine dE ?_|refine dF ?_|((first|refine et ?_|refine eu ?_|refine ew ?_|exact dH|refine dG ?_);try(refine d' [0,1,2,3,8] fun F k=>?_;replace K:=k;clear k))|(refine dI (fun J=>?_) (fun J=>?_)<;>first|(exfalso;simp(disch:=omega) [H] at J;done)|(exfalso;simp at J;omega)|simp at J)|((first|refine bU ?_|refine c5 ?_);simp(disch:=omega) [H,K,e])|exact trivial)
     all_goals obtain⟨f0,f1,f2,f3,f8⟩:=K
   · have e:fK z=1:=by simp[fK,aF,U]
     have av:a5 z=false:=by simp[a5,U]
     refine aM [0,1,2,3,8] fun F K=>?_
     obtain⟨f0,f1,f2,f3,f8⟩:=K
     have H:=b3 ak ka av
     have K:=bA f0 f1 f2 f3 f8;clear f0 f1 f2 f3 f8
     repeat' (first|refine dE ?_|refine dF ?_|((first|refine et ?_|refine eu ?_|refine ew ?_|exact dH|refine dG ?_);try(refine d' [0,1,2,3,8] fun F k=>?_;replace K:=k;clear k))|(refine dI (fun J=>?_) (fun J=>?_)<;>first|(exfalso;simp(disch:=omega) [H] at J;done)|(exfalso;simp at J;omega)|simp at J)|((first|refine bU ?_|refine c5 ?_);simp(disch:=omega) [H,K,e])|exact trivial)
     all_goals obtain⟨f0,f1,f2,f3,f8⟩:=K
noncomputable def q2:List I->Option I:=a7 (fun z:Int=>aJ z<=100000000) (fun z=>[ao z]) (fun z=>ao (-z))
theorem DG (z:Int) (h:aJ z<=100000000) {args:List I} (he:args.map I.loose= [ao z]):q2 args=some (ao (-z)):=bk (fun z w h=>by simp only[List.cons.injEq,I.int.injEq,I.bool.injEq,I.sl.injEq,b4,bZ,bX,b_,b9,bz,bI,b8,bp,true_and,and_true] at h;simp[h]) z h he
theorem DH:aG Tryz.prog G 90 q2:=by
 refine bj mixed zq Jm fun z av=>?_
 simp only[aJ] at av
 have t:=mA (b:=!a5 z) (n:=z.natAbs) (by omega)
 rw[show c3 (!a5 z) z.natAbs= -z by simp only[c3,a5,Bool.not_eq_true',decide_eq_false_iff_not];split<;>omega] at t
 unfold i90
 generalize a4:a5 z=s at*
 generalize gd:z.natAbs=n at*
 generalize -z=w at*
 refine aM [0,1,2] fun F K=>?_
 obtain⟨f0,f1,f2⟩:=K
 have H:=b3 a4 gd t
 have K:=b3 f0 f1 f2;clear f0 f1 f2
 exact a9 [0,1,2]
def lu (a b:Int):Int:=if a<b then -1 else if b<a then 1 else 0
noncomputable def ma:List I->Option I:=a7 (fun z:Int × Int=>aJ z.1<=10000000/\aJ z.2<=10000000) (fun z=>[ao z.1,ao z.2]) (fun z=>ao (z.1+z.2))
theorem wQ (z:Int × Int) (h:aJ z.1<=10000000/\aJ z.2<=10000000) {args:List I} (he:args.map I.loose= [ao z.1,ao z.2]):ma args=some (ao (z.1+z.2)):=bk (fun z w h=>by simp only[List.cons.injEq,I.int.injEq,I.bool.injEq,I.sl.injEq,b4,bZ,bX,b_,b9,bz,bI,b8,bp,true_and,and_true] at h;simp[h]) z h he
theorem uB:aG Tryz.prog G 119 ma:=by
 refine bj mixed zq JD fun z av=>?_
 obtain⟨a,b⟩:=z
 obtain⟨aC,ad⟩:=av
 simp only[aJ] at aC ad|-
 have VQ:((-1:Int)<Z 0)=True:=eq_true (by decide)
 unfold i119
 by_cases aw:a5 a=a5 b
 · have t1:=m' (a:=a.natAbs) (b:=b.natAbs) (e:=false) (e':=false) (by omega) (by omega)
   have az:=ki a.natAbs b.natAbs
   have t2:=mA (b:=a5 a) (n:=a.natAbs+b.natAbs) (by omega)
   rw[Lw aw] at t2
   generalize a4:a5 a=tO at*
   generalize bw:a5 b=tP at*
   subst aw
   refine aM [0,1,2,3,4,5,11,25] fun F K=>?_
   obtain⟨f0,f1,f2,f3,f4,f5,f11,f25⟩:=K
   have H:=bK a4 bw t1 t2
   have K:=fi f0 f1 f2 f3 f4 f5 f11 f25;clear f0 f1 f2 f3 f4 f5 f11 f25
   exact a9 [0,1,2,3,4,5,11,25]
 · have k8:(a5 a == a5 b)=false:=by simpa using aw
   have t0:=wE (a:=a.natAbs) (b:=b.natAbs) (e:=false) (e':=false) (by omega) (by omega)
   by_cases bB:a.natAbs<b.natAbs
   · have J:dx a.natAbs b.natAbs= -1:=by simp[dx,bB]
     rw[J] at t0
     have t2:=wK (a:=b.natAbs) (b:=a.natAbs) (e:=false) (e':=false) (by omega) (by omega)
     rw[if_neg (by omega)] at t2
     have t3:=mA (b:=a5 b) (n:=b.natAbs - a.natAbs) (Nat.le_trans (fB (Nat.sub_le _ _)) (by omega))
     rw[Ly aw bB] at t3
     generalize a4:a5 a=tO at*
     generalize bw:a5 b=tP at*
     refine aM [0,1,2,3,4,5,11,25] fun F K=>?_
     obtain⟨f0,f1,f2,f3,f4,f5,f11,f25⟩:=K
     have H:=db a4 bw k8 VQ t0 t2 t3
     have K:=fi f0 f1 f2 f3 f4 f5 f11 f25;clear f0 f1 f2 f3 f4 f5 f11 f25
     exact a9 [0,1,2,3,4,5,11,25]
   · have my:(dx a.natAbs b.natAbs<Z 0)=False:=eq_false (by simp only[dx];rw[if_neg bB];split<;>decide)
     have t2:=wK (a:=a.natAbs) (b:=b.natAbs) (e:=false) (e':=false) (by omega) (by omega)
     rw[if_neg bB] at t2
     have t3:=mA (b:=a5 a) (n:=a.natAbs - b.natAbs) (Nat.le_trans (fB (Nat.sub_le _ _)) (by omega))
     rw[Lx aw bB] at t3
     generalize dx a.natAbs b.natAbs=wL at*
     generalize a4:a5 a=tO at*
     generalize bw:a5 b=tP at*
     refine aM [0,1,2,3,4,5,11,25] fun F K=>?_
     obtain⟨f0,f1,f2,f3,f4,f5,f11,f25⟩:=K
     have H:=db a4 bw k8 my t0 t2 t3
     have K:=fi f0 f1 f2 f3 f4 f5 f11 f25;clear f0 f1 f2 f3 f4 f5 f11 f25
     exact a9 [0,1,2,3,4,5,11,25]
noncomputable def DI:FuncId->Option (List I->Option I):=cf [(119,ma),(90,q2)]
theorem VR:∀f T,DI f=some T->aG Tryz.prog G f T:=cg (by simp only[List.forall_mem_cons];exact ⟨uB,DH,fun _ h=>absurd h (by simp)⟩)
theorem VS:DI 119=some ma:=rfl
theorem VT:DI 90=some q2:=rfl
attribute [local simp] VS VT
noncomputable def wR:List I->Option I:=a7 (fun z:Int × Int=>aJ z.1<=10000000/\aJ z.2<=10000000) (fun z=>[ao z.1,ao z.2]) (fun z=>ao (z.1 - z.2))
theorem VU (z:Int × Int) (h:aJ z.1<=10000000/\aJ z.2<=10000000) {args:List I} (he:args.map I.loose= [ao z.1,ao z.2]):wR args=some (ao (z.1 - z.2)):=bk (fun z w h=>by simp only[List.cons.injEq,I.int.injEq,I.bool.injEq,I.sl.injEq,b4,bZ,bX,b_,b9,bz,bI,b8,bp,true_and,and_true] at h;simp[h]) z h he
theorem VV:aG Tryz.prog G 143 wR:=by
 refine bj mixed VR JK fun z av=>?_
 obtain⟨a,b⟩:=z
 obtain⟨aC,ad⟩:=av
 simp only at aC ad|-
 have t1:=DG b (by omega) (args:=[ao b]) (by simp)
 have t2:=wQ (a,-b) ⟨aC,by rw[wO];exact ad⟩ (args:=[ao a,ao (-b)]) (by simp)
 rw[<-Int.sub_eq_add_neg] at t2
 unfold i143
 generalize -b=c at*
 generalize a - b=d at*
 refine aM [0,1,2,3,4] fun F K=>?_
 obtain⟨f0,f1,f2,f3,f4⟩:=K
 have H:=br t1 t2
 have K:=bA f0 f1 f2 f3 f4;clear f0 f1 f2 f3 f4
 exact a9 [0,1,2,3,4]
end
section
attribute [local irreducible] a'
attribute [local simp] c2 cN cq y2 y3 y4
theorem LI {x y:Nat} (ae:x<4294967296) (aQ:y<4294967296):x*y<=18446744065119617025:=Nat.mul_le_mul (show x<=4294967295 by omega) (show y<=4294967295 by omega)
theorem LJ {V fs P cF B DJ x r q q3 fF c R u:Nat} (U:fs+P*cF*DJ=V+P*cF*r) (ae:x=q3*fF+DJ+c) (a3:x=B*q+r) (h:V+P*cF*c=R+P*(q3*u)):
 fs+P*cF*B*q=R+P*(q3*(u+cF*fF)):=by
 have aq:P*cF*x=P*cF*(q3*fF)+P*cF*DJ+P*cF*c:=by rw[ae,Nat.mul_add,Nat.mul_add]
 have au:P*cF*x=P*cF*B*q+P*cF*r:=by rw[a3,Nat.mul_add,Nat.mul_assoc (P*cF)]
 have aV:P*(q3*(u+cF*fF))=P*(q3*u)+P*cF*(q3*fF):=by
  rw[Nat.mul_add,Nat.mul_add]
  congr 1
  rw[Nat.mul_assoc P,Nat.mul_left_comm q3]
 omega
noncomputable def zu:List I->Option I:=a7 (fun z:Nat × Nat=>(aa z.1).length<=100000000/\(aa z.2).length<=100000000) (fun z=>[af z.1,af z.2]) (fun z=>af (z.1*z.2))
theorem VW {a b:Nat} {e e':Bool} (aC:(aa a).length<=100000000) (ad:(aa b).length<=100000000):
 zu [.sl ((aa a).map fun n=> .int .u32 (Z n)) e,.sl ((aa b).map fun n=> .int .u32 (Z n)) e']=some (af (a*b)):=
 bk (fun z w h=>by simp[bz,bI] at h;simp[h]) (a,b) ⟨aC,ad⟩ (by simp)
structure zv (a b:Nat) (i:Nat) (o:List Nat) (s:aK) (q:Nat):Prop where
 len:o.length=(aa a).length+(aa b).length
 mw:Small o
 av:∀j,i+(aa b).length<=j->aD o j=0
 f0:s.F 0=af a
 f1:s.F 1=af b
 f5:s.F 5= .ref q 0 ((aa a).length+(aa b).length) ((aa a).length+(aa b).length)
 f6:s.F 6=aI i
 cells:s.h.cells q=some (o.map fun n=> .int .u32 (Z n))
 cp:s.h.shut q=false
 dK:q<s.h.next
theorem VX:aG Tryz.prog G 242 zu:=by
 refine bj mixed Da TJ fun z av=>?_
 obtain⟨a,b⟩:=z
 obtain⟨bt,bm⟩:=av
 simp only at bt bm|-
 have aC:=dp a
 have ad:=dp b
 obtain⟨A,a4⟩:∃A,A=(aa a).length:=⟨_,rfl⟩
 obtain⟨B,bw⟩:∃B,B=(aa b).length:=⟨_,rfl⟩
 have DK:a<aj A:=cu.1 (by omega)
 have DL:b<aj B:=cu.1 (by omega)
 unfold i242
 refine ba (bg bx ?_)
 simp[aF]
 refine ba (bg bx ?_)
 simp[<-a4,<-bw,dD (show A+B<9223372036854775808 by omega),show Z (A+B)*4<=140737488355328 by simp only[Z];omega]
 refine ba (ba (bg bx ?_))
 simp
 refine ln (id:=0) (fun m s=>∃i o q,m=A - i/\i<=A/\val o=a%aj i*b/\zv a b i o s q) (fun s=>∃o q,val o=a*b/\zv a b A o s q) (fun _=>False) A ?_ ?_ ?_ (fun _ h=>h.elim)
 · refine⟨0,List.replicate (A+B) 0,1+5,by omega,by omega,by simp[sn,fk,Nat.mod_one],⟨by simp[<-a4,<-bw],p5 _,fun j _=>wA _ _,by simp,by simp,by simp[<-a4,<-bw],by simp,by simp,by simp,by simp⟩⟩
 · rintro m s ⟨i,o,q,rfl,ab,al,ah⟩
   refine ba (ba (bg bx ?_))
   simp[ah.f0,ah.f6,<-a4]
   refine fy _ rfl (fun J=>?_) (fun J=>?_)
   · have lj:i<A:=by simpa using J
     have ae:=aC.aD i
     have nc:=(jS (show i<(aa a).length by omega)).symm
     have uC:=fY a i
     refine gp ?_
     simp
     refine ba (jA (ba (bg bx ?_)))
     simp
     refine ba (ba (bg bx ?_))
     simp
     generalize iP:aD (aa a) i=x at*
     refine ln (id:=2) (fun m s=>∃k c o,m=B - k/\k<=B/\c<4294967296/\val o+aj i*aj k*c=a%aj i*b+aj i*(x*(b%aj k))/\zv a b i o s q/\s.F 7=e_ c/\s.F 8=aI k)
      (fun s=>∃c o,c<4294967296/\val o+aj i*aj B*c=a%aj i*b+aj i*(x*b)/\zv a b i o s q/\s.F 7=e_ c) (fun _=>False) B ?_ ?_ ?_ (fun _ h=>h.elim)
     · refine⟨0,0,o,by omega,by omega,by omega,by simp[al,fk,Nat.mod_one],⟨ah.len,ah.mw,ah.av,by simp[ah.f0],by simp[ah.f1],by simp[ah.f5],by simp[ah.f6],by simp[ah.cells],by simp[ah.cp],by have:=ah.dK;simp;omega⟩,by simp,by simp⟩
     · rintro m s ⟨k,c,o,rfl,ag,J,al,ah,f7,f8⟩
       refine ba (ba (bg bx ?_))
       simp[ah.f1,f8,<-bw]
       refine fy _ rfl (fun je=>?_) (fun je=>?_)
       · have lv:k<B:=by simpa using je
         have aQ:=ad.aD k
         have pa:=(jS (show k<(aa b).length by omega)).symm
         have ga:=fY b k
         have ay:=ah.mw.aD (i+k)
         have fZ:=ah.len
         have go:=(jS (show i+k<o.length by omega)).symm
         have nH:=ah.dK
         generalize jL:aD (aa b) k=y at*
         generalize p':aD o (i+k)=z at*
         have lZ:=LI ae aQ
         have uD:x*y+z+c<18446744073709551616:=by omega
         have uE:x*y+z<18446744073709551616:=by omega
         have lW:i+k<A+B:=by omega
         have f0:=ah.f0
         have f1:=ah.f1
         have f5:=ah.f5
         have f6:=ah.f6
         have ds:=ah.cells
         have eT:=ah.cp
         have kZ:A+B<=o.length:=by omega
         have K:=c6 f0 f1 f5 f6 f7 f8;clear f0 f1 f5 f6 f7 f8
         refine bN [0,1,5,6,7,8,9] fun F k=>?_;clear K
         obtain⟨f0,f1,f5,f6,f7,f8,f9⟩:=k
         have nd:o≠ []:=fun h=>by rw[h] at kZ;simp at kZ;omega
         have nf:0<o.length:=by omega
         repeat' (first
          | refine ba ?_
          | ((fail_if_success (refine yN ?_));(fail_if_success (refine yO ?_));refine jA ?_)
          | ((first|(refine bg bx ?_;simp(disch:=omega) [ds,eT,nc,pa,go,iP,jL,p',uD,uE,lW,kZ,sizedB,nd,nf,<-a4,<-bw,f0,f1,f5,f6,f7,f8,f9];(try(refine⟨by first|decide|rfl,?_⟩)))|(refine gp ?_;simp(disch:=omega) [ds,eT,nc,pa,go,iP,jL,p',uD,uE,lW,kZ,sizedB,nd,nf,<-a4,<-bw,f0,f1,f5,f6,f7,f8,f9]));(try(refine yM [0,1,5,6,7,8,9] ?_;intro F;simp only[sc];intro gJ bq kf mj q4 zw DM;simp(disch:=omega) [ds,eT,nc,pa,go,iP,jL,p',uD,uE,lW,kZ,sizedB,nd,nf,<-a4,<-bw,f0,f1,f5,f6,f7,f8,f9] at gJ bq kf mj q4 zw DM;clear f0 f1 f5 f6 f7 f8 f9;have f0:=gJ;have f1:=bq;have f5:=kf;have f6:=mj;have f7:=q4;have f8:=zw;have f9:=DM;clear gJ bq kf mj q4 zw DM)))
          | (refine fy _ (by simp(disch:=omega) [ds,eT,nc,pa,go,iP,jL,p',uD,uE,lW,kZ,sizedB,nd,nf,<-a4,<-bw,f0,f1,f5,f6,f7,f8,f9];rfl) (fun J=>?_) (fun J=>?_)<;>first|(exfalso;simp(disch:=omega) [ds,eT,nc,pa,go,iP,jL,p',uD,uE,lW,kZ,sizedB,nd,nf,<-a4,<-bw] at J;done)|(exfalso;simp at J;omega)|(simp at J))
          | ((first|refine bU ?_|refine c5 ?_);simp(disch:=omega) [ds,eT,nc,pa,go,iP,jL,p',uD,uE,lW,kZ,sizedB,nd,nf,<-a4,<-bw,f0,f1,f5,f6,f7,f8,f9]))
         have wC:=map_set o (i+k) ((x*y+z+c)%4294967296)
         have f_:=m8 ((x*y+z+c)%4294967296) (show i+k<o.length by omega)
         rw[p',gB] at f_
         have uF:=LJ (B:=4294967296) (q:=(x*y+z+c)/4294967296) f_ rfl (Nat.div_add_mod _ _).symm (show val o+aj i*aj k*c=a%aj i*b+aj i*(x*(b%aj k)) from al)
         refine⟨B -(k+1),by omega,k+1,rfl,by omega,(x*y+z+c)/4294967296,by omega,o.set (i+k) ((x*y+z+c)%4294967296),?_,⟨by simp only[List.length_set];exact ah.len,m9 ah.mw (Nat.mod_lt _ (by decide)),fun j aA=>?_,by simp[f0],by simp[f1],by simp[f5,<-a4,<-bw],by simp[f6],by simp only[ar,if_true];exact congrArg some wC,by simp[eT],by simp;omega⟩,rfl,rfl⟩
         · rw[l7,ea,<-ga,<-Nat.mul_assoc]
           exact uF
         · rw[nG _ _ (by omega),if_neg (by omega)]
           exact ah.av j aA
       · have DN:k=B:=by simp at je;omega
         subst DN
         refine c5 ?_
         rw[Nat.mod_eq_of_lt DL] at al
         exact ⟨rfl,c,J,o,al,⟨ah.len,ah.mw,ah.av,by simp[ah.f0],by simp[ah.f1],by simp[ah.f5],by simp[ah.f6],by simp[ah.cells],by simp[ah.cp],by have:=ah.dK;simp;omega⟩,by simp[f7]⟩
     · rintro s ⟨c,o,J,al,ah,f7⟩
       have f0:=ah.f0
       have f1:=ah.f1
       have f5:=ah.f5
       have f6:=ah.f6
       have ds:=ah.cells
       have eT:=ah.cp
       have fZ:=ah.len
       have nH:=ah.dK
       have kZ:A+B<=o.length:=by omega
       have nd:o≠ []:=fun h=>by rw[h] at kZ;simp at kZ;omega
       have nf:0<o.length:=by omega
       have qa:i+B<A+B:=by omega
       have K:=bA f0 f1 f5 f6 f7;clear f0 f1 f5 f6 f7
       refine bN [0,1,5,6,7] fun F k=>?_;clear K
       obtain⟨f0,f1,f5,f6,f7⟩:=k
       repeat' (first
        | refine ba ?_
        | ((fail_if_success (refine yN ?_));(fail_if_success (refine yO ?_));refine jA ?_)
        | ((first|(refine bg bx ?_;simp(disch:=omega) [ds,eT,qa,kZ,sizedB,nd,nf,<-a4,<-bw,f0,f1,f5,f6,f7];(try(refine⟨by first|decide|rfl,?_⟩)))|(refine gp ?_;simp(disch:=omega) [ds,eT,qa,kZ,sizedB,nd,nf,<-a4,<-bw,f0,f1,f5,f6,f7]));(try(refine yM [0,1,5,6,7] ?_;intro F;simp only[sc];intro gJ bq kf mj q4;simp(disch:=omega) [ds,eT,qa,kZ,sizedB,nd,nf,<-a4,<-bw,f0,f1,f5,f6,f7] at gJ bq kf mj q4;clear f0 f1 f5 f6 f7;have f0:=gJ;have f1:=bq;have f5:=kf;have f6:=mj;have f7:=q4;clear gJ bq kf mj q4)))
        | (refine fy _ (by simp(disch:=omega) [ds,eT,qa,kZ,sizedB,nd,nf,<-a4,<-bw,f0,f1,f5,f6,f7];rfl) (fun J=>?_) (fun J=>?_)<;>first|(exfalso;simp(disch:=omega) [ds,eT,qa,kZ,sizedB,nd,nf,<-a4,<-bw] at J;done)|(exfalso;simp at J;omega)|(simp at J))
        | ((first|refine bU ?_|refine c5 ?_);simp(disch:=omega) [ds,eT,qa,kZ,sizedB,nd,nf,<-a4,<-bw,f0,f1,f5,f6,f7]))
       have wC:=map_set o (i+B) c
       have f_:=m8 c (show i+B<o.length by omega)
       rw[ah.av (i+B) (by omega),Nat.mul_zero,Nat.add_zero,gB] at f_
       refine⟨A -(i+1),by omega,i+1,rfl,by omega,o.set (i+B) c,?_,q,⟨by simp only[List.length_set];exact ah.len,m9 ah.mw J,fun j aA=>?_,by simp[f0],by simp[f1],by simp[f5,<-a4,<-bw],by simp,by simp only[ar,if_true];exact congrArg some wC,by simp[eT],by simp;omega⟩⟩
       · rw[f_,l7,<-uC,Nat.add_mul,al,Nat.mul_assoc]
       · rw[nG _ _ (by omega),if_neg (by omega)]
         exact ah.av j (by omega)
   · have jj:i=A:=by simp at J;omega
     subst jj
     refine c5 ?_
     rw[Nat.mod_eq_of_lt DK] at al
     exact ⟨rfl,o,al,q,⟨ah.len,ah.mw,ah.av,by simp[ah.f0],by simp[ah.f1],by simp[ah.f5],by simp[ah.f6],by simp[ah.cells],by simp[ah.cp],by have:=ah.dK;simp;omega⟩⟩
 · rintro s ⟨o,q,al,ah⟩
   have fZ:=ah.len
   have f5:=ah.f5
   have ds:=ah.cells
   have b7:=p4 (e:=false) ah.mw (show o.length<=1073741824 by omega)
   rw[al] at b7
   have ef:List.take (A+B) (o.map fun n=>I.int .u32 (Z n))=o.map fun n=>I.int .u32 (Z n):=List.take_of_length_le (by simp;omega)
   have kZ:A+B<=o.length:=by omega
   have K:=f5;clear f5
   refine bN [4,5] fun F k=>?_;clear K
   obtain⟨f4,f5⟩:=k
   have H:=c6 ds b7 ef kZ a4.symm bw.symm
   have K:=br f4 f5;clear f4 f5
   exact a9 [4,5]
noncomputable def LK:FuncId->Option (List I->Option I):=cf [(242,zu)]
theorem VY:∀f T,LK f=some T->aG Tryz.prog G f T:=cg (by simp only[List.forall_mem_cons];exact ⟨VX,fun _ h=>absurd h (by simp)⟩)
theorem VZ:LK 242=some zu:=rfl
attribute [local simp] VZ
noncomputable def zx:List I->Option I:=a7 (fun z:Nat × Nat=>(aa z.1).length<=100000000/\(aa z.2).length<=100000000) (fun z=>[af z.1,af z.2]) (fun z=>af (z.1*z.2))
theorem V0 {a b:Nat} {e e':Bool} (aC:(aa a).length<=100000000) (ad:(aa b).length<=100000000):
 zx [.sl ((aa a).map fun n=> .int .u32 (Z n)) e,.sl ((aa b).map fun n=> .int .u32 (Z n)) e']=some (af (a*b)):=
 bk (fun z w h=>by simp[bz,bI] at h;simp[h]) (a,b) ⟨aC,ad⟩ (by simp)
theorem V1:aG Tryz.prog G 181 zx:=by
 refine bj mixed VY TC fun z av=>?_
 obtain⟨a,b⟩:=z
 have t:=VW (e:=false) (e':=false) av.1 av.2
 unfold i181
 refine aM [0,1,4] fun F K=>?_
 obtain⟨f0,f1,f4⟩:=K
 have H:=t
 have K:=b3 f0 f1 f4;clear f0 f1 f4
 exact a9 [0,1,4]
end
section
attribute [local irreducible] a'
attribute [local simp] c2 cN cq
def bm (o:List Nat):List I:=o.map fun n=> .int .u32 (Z n)
theorem kc {o:List Nat} {i:Nat} (h:i<o.length):(bm o)[i]? =some (.int .u32 (Z (aD o i))):=o1 h
theorem pb (o:List Nat) (i v:Nat):(bm o).set i (.int .u32 (Z v))=bm (o.set i v):=map_set o i v
theorem qb (o:List Nat):(bm o).length=o.length:=by simp[bm]
theorem kH {o:List Nat} (h:0<o.length):sizedB 1 (some (bm o))=true:=by
 simp[sizedB,bm,I.cells];exact h
theorem zy (n:Nat):List.replicate n (I.int .u32 (Z 0))=bm (List.replicate n 0):=Uj n
theorem zz (o:List Nat):(bm o).all I.ei=true:=wu o
theorem zA {o:List Nat} {n:Nat} (h:o.length<=n):List.take n (bm o)=bm o:=List.take_of_length_le (by rw[qb];exact h)
structure fa (h:ai) (q:Nat) (o:List Nat):Prop where
 cells:h.cells q=some (bm o)
 cp:h.shut q=false
 dK:q<h.next
theorem fa.bump {h:ai} {q:Nat} {o:List Nat} (R:fa h q o) (m:Nat) (p:Nat->Option fu) (hm:h.next<=m):fa ⟨h.cells,h.shut,m,p⟩ q o:=⟨R.cells,R.cp,Nat.lt_of_lt_of_le R.dK hm⟩
theorem fa.put {h:ai} {q:Nat} {o:List Nat} (R:fa h q o) (o':List Nat) (m:Nat) (p:Nat->Option fu) (hm:h.next<=m):fa ⟨ar h.cells q (some (bm o')),h.shut,m,p⟩ q o':=
 ⟨by simp only[ar,if_true],R.cp,Nat.lt_of_lt_of_le R.dK hm⟩
theorem fa.new {h:ai} {q:Nat} {o:List Nat} (m:Nat) (p:Nat->Option fu) (aw:h.shut q=false) (aN:q<m):fa ⟨ar h.cells q (some (bm o)),h.shut,m,p⟩ q o:=
 ⟨by simp only[ar,if_true],aw,aN⟩
noncomputable def LL:FuncId->Option (List I->Option I):=cf [(170,kG)]
theorem V2:∀f T,LL f=some T->aG Tryz.prog G f T:=cg (by simp only[List.forall_mem_cons];exact ⟨p7,fun _ h=>absurd h (by simp)⟩)
theorem V3:LL 170=some kG:=rfl
attribute [local simp] V3
def LM (a b A B i:Nat) (s:aK):Prop:=∃q o,o.length=A+B/\Small o/\(∀j,i+B<=j->aD o j=0)/\val o=a%aj i*b/\s.F 5= .ref q 0 (A+B) (A+B)/\fa s.h q o
def LN (a b A B i x k:Nat) (s:aK):Prop:=∃q o c,o.length=A+B/\Small o/\(∀j,i+B<=j->aD o j=0)/\c<4294967296/\val o+aj i*aj k*c=a%aj i*b+aj i*(x*(b%aj k))/\s.F 5= .ref q 0 (A+B) (A+B)/\s.F 8=e_ c/\fa s.h q o
noncomputable def uG:List I->Option I:=a7 (fun z:Nat × Nat=>(aa z.1).length<=100000000/\(aa z.2).length<=100000000) (fun z=>[af z.1,af z.2]) (fun z=>af (z.1*z.2))
theorem LO (z:Nat × Nat) (h:(aa z.1).length<=100000000/\(aa z.2).length<=100000000) {args:List I} (he:args.map I.loose= [af z.1,af z.2]):uG args=some (af (z.1*z.2)):=bk (fun z w h=>by simp only[List.cons.injEq,I.int.injEq,I.bool.injEq,I.sl.injEq,b4,bZ,bX,b_,b9,bz,bI,b8,bp,true_and,and_true] at h;simp[h]) z h he
theorem LP:aG Tryz.prog G 203 uG:=by
 refine bj mixed V2 J2 fun z av=>?_
 obtain⟨a,b⟩:=z
 obtain⟨bt,V4⟩:=av
 simp only at bt V4|-
 have aC:=dp a
 have ad:=dp b
 obtain⟨A,a4⟩:∃A,A=(aa a).length:=⟨_,rfl⟩
 obtain⟨B,bw⟩:∃B,B=(aa b).length:=⟨_,rfl⟩
 have DK:a<aj A:=cu.1 (by omega)
 have DL:b<aj B:=cu.1 (by omega)
 have hw:IntKind.i64.wrap (Z A+Z B)=Z (A+B):=dD (by omega)
 have aS:Z (A+B)*4<=140737488355328:=by simp only[Z];omega
 unfold i203
 refine aM [0,1,4,5,6,7,8,9,10,17,18,19,20,24,25,26,27] fun F K=>?_
 obtain⟨f0,f1,f4,f5,f6,f7,f8,f9,f10,f17,f18,f19,f20,f24,f25,f26,f27⟩:=K
 have H:=bA a4.symm bw.symm hw aS (@zy)
 have K:=wj f0 f1 f4 f5 f6 f7 f8 f9 f10 f17 f18 f19 f20 f24 f25 f26 f27;clear f0 f1 f4 f5 f6 f7 f8 f9 f10 f17 f18 f19 f20 f24 f25 f26 f27
 refine bu [0,1,4,5,6,7,8,9,10,17,18,19,20,24,25,26,27] fun F k=>?_;clear K H
 obtain⟨f0,f1,f4,f5,f6,f7,f8,f9,f10,f17,f18,f19,f20,f24,f25,f26,f27⟩:=k
 refine fA A (fun i s=>LM a b A B i s/\s.F 19=aI i) (LM a b A B A) (fun _=>False) ?_ ?_ ?_ (fun _ _ h=>h.elim)
 · exact ⟨⟨_,List.replicate (A+B) 0,by simp,p5 _,fun j _=>wA _ _,by simp[sn,fk,Nat.mod_one],f5,⟨by simp[ar],by simp,by simp⟩⟩,f19⟩
 · rintro i s ab ag ⟨⟨q,o,fZ,fl,av,al,dm,V⟩,V5⟩
   replace f0:=(ag 0 rfl).trans f0;replace f1:=(ag 1 rfl).trans f1;replace f17:=(ag 17 rfl).trans f17;replace f18:=(ag 18 rfl).trans f18
   clear f5 f19
   have f5:=dm
   have f19:=V5
   have K:=c6 f0 f1 f5 f17 f18 f19;clear f0 f1 f5 f17 f18 f19
   refine bN [0,1,5,6,7,8,17,18,19,20,24,25,26] fun F k=>?_;clear K
   obtain⟨f0,f1,f5,f6,f7,f8,f17,f18,f19,f20,f24,f25,f26⟩:=k
   by_cases lj:i<A
   · have ae:=aC.aD i
     have nc:=(jS (show i<(aa a).length by omega)).symm
     have uC:=fY a i
     generalize iP:aD (aa a) i=x at*
     have H:=bA lj nc iP a4.symm bw.symm
     have K:=ky f0 f1 f5 f6 f7 f8 f17 f18 f19 f20 f24 f25 f26;clear f0 f1 f5 f6 f7 f8 f17 f18 f19 f20 f24 f25 f26
     refine bu [0,1,5,6,7,8,17,18,19,20,24,25,26] fun F k=>?_;clear K H
     obtain⟨f0,f1,f5,f6,f7,f8,f17,f18,f19,f20,f24,f25,f26⟩:=k
     refine fA B (fun k s=>LN a b A B i x k s/\s.F 26=aI k) (LN a b A B i x B) (fun _=>False) ?_ ?_ ?_ (fun _ _ h=>h.elim)
     · exact ⟨⟨q,o,0,fZ,fl,av,by omega,by simp[al,fk,Nat.mod_one],f5,f8,V.bump _ _ (by omega)⟩,f26⟩
     · rintro k s kp ag ⟨⟨q,o,c,fZ,fl,av,mB,al,dm,jU,V⟩,wM⟩
       replace f0:=(ag 0 rfl).trans f0;replace f1:=(ag 1 rfl).trans f1;replace f6:=(ag 6 rfl).trans f6;replace f7:=(ag 7 rfl).trans f7;replace f17:=(ag 17 rfl).trans f17;replace f18:=(ag 18 rfl).trans f18;replace f19:=(ag 19 rfl).trans f19;replace f24:=(ag 24 rfl).trans f24;replace f25:=(ag 25 rfl).trans f25
       clear f5 f8 f26
       have f5:=dm
       have f8:=jU
       have f26:=wM
       have K:=kU f0 f1 f5 f6 f7 f8 f17 f18 f19 f24 f25 f26;clear f0 f1 f5 f6 f7 f8 f17 f18 f19 f24 f25 f26
       refine bN [0,1,5,6,7,8,9,10,17,18,19,24,25,26,27] fun F k=>?_;clear K
       obtain⟨f0,f1,f5,f6,f7,f8,f9,f10,f17,f18,f19,f24,f25,f26,f27⟩:=k
       by_cases lv:k<B
       · have aQ:=ad.aD k
         have pa:=(jS (show k<(aa b).length by omega)).symm
         have ga:=fY b k
         have ay:=fl.aD (i+k)
         have go:=kc (show i+k<o.length by omega)
         generalize jL:aD (aa b) k=y at*
         generalize p':aD o (i+k)=z at*
         have lZ:=LI ae aQ
         have oH:x*y+z<18446744073709551616:=by omega
         have pQ:c+(x*y+z)<18446744073709551616:=by omega
         have lW:i+k<A+B:=by omega
         have sz:=kH (show 0<o.length by omega)
         have st:=pb o (i+k) ((c+(x*y+z))%4294967296)
         have ds:=V.cells
         have eT:=V.cp
         have H:=ky lv ds eT pa go jL oH pQ lW sz st a4.symm bw.symm
         have K:=wi f0 f1 f5 f6 f7 f8 f9 f10 f17 f18 f19 f24 f25 f26 f27;clear f0 f1 f5 f6 f7 f8 f9 f10 f17 f18 f19 f24 f25 f26 f27
         refine bu [0,1,5,6,7,8,9,10,17,18,19,24,25,26,27] fun F k=>?_;clear K H
         obtain⟨f0,f1,f5,f6,f7,f8,f9,f10,f17,f18,f19,f24,f25,f26,f27⟩:=k
         have f_:=m8 ((c+(x*y+z))%4294967296) (show i+k<o.length by omega)
         rw[p',gB] at f_
         have uF:=LJ (B:=4294967296) (q:=(c+(x*y+z))/4294967296) f_ (show c+(x*y+z)=x*y+z+c by omega) (Nat.div_add_mod _ _).symm (show val o+aj i*aj k*c=a%aj i*b+aj i*(x*(b%aj k)) from al)
         refine⟨q,o.set (i+k) ((c+(x*y+z))%4294967296),(c+(x*y+z))/4294967296,by rw[List.length_set];exact fZ,m9 fl (Nat.mod_lt _ (by decide)),fun j aA=>?_,by omega,?_,f5,f8,V.put _ _ _ (by omega)⟩
         · rw[nG _ _ (by omega),if_neg (by omega)]
           exact av j aA
         · rw[l7,ea,<-ga,<-Nat.mul_assoc]
           exact uF
       · have DN:k=B:=by omega
         subst DN
         have H:=lv
         have K:=wi f0 f1 f5 f6 f7 f8 f9 f10 f17 f18 f19 f24 f25 f26 f27;clear f0 f1 f5 f6 f7 f8 f9 f10 f17 f18 f19 f24 f25 f26 f27
         refine bu [0,1,5,6,7,8,9,10,17,18,19,24,25,26,27] fun F k=>?_;clear K H
         obtain⟨f0,f1,f5,f6,f7,f8,f9,f10,f17,f18,f19,f24,f25,f26,f27⟩:=k
         exact ⟨q,o,c,fZ,fl,av,mB,al,f5,f8,V.bump _ _ (by omega)⟩
     · rintro s ag ⟨q,o,c,fZ,fl,av,mB,al,dm,jU,V⟩
       rw[Nat.mod_eq_of_lt DL] at al
       replace f0:=(ag 0 rfl).trans f0;replace f1:=(ag 1 rfl).trans f1;replace f6:=(ag 6 rfl).trans f6;replace f7:=(ag 7 rfl).trans f7;replace f17:=(ag 17 rfl).trans f17;replace f18:=(ag 18 rfl).trans f18;replace f19:=(ag 19 rfl).trans f19;replace f24:=(ag 24 rfl).trans f24;replace f25:=(ag 25 rfl).trans f25
       clear f5 f8 f26
       have f5:=dm
       have f8:=jU
       have K:=fH f0 f1 f5 f6 f7 f8 f17 f18 f19;clear f0 f1 f5 f6 f7 f8 f17 f18 f19
       refine bN [0,1,5,6,7,8,17,18,19] fun F k=>?_;clear K
       obtain⟨f0,f1,f5,f6,f7,f8,f17,f18,f19⟩:=k
       have qa:i+B<A+B:=by omega
       have sz:=kH (show 0<o.length by omega)
       have st:=pb o (i+B) c
       have ng:=kc (show i+B<o.length by omega)
       have ds:=V.cells
       have eT:=V.cp
       have H:=fH ds eT qa sz st ng mB a4.symm bw.symm
       have K:=fH f0 f1 f5 f6 f7 f8 f17 f18 f19;clear f0 f1 f5 f6 f7 f8 f17 f18 f19
       refine bu [0,1,5,6,7,8,17,18,19] fun F k=>?_;clear K H
       obtain⟨f0,f1,f5,f6,f7,f8,f17,f18,f19⟩:=k
       have f_:=m8 c (show i+B<o.length by omega)
       rw[av (i+B) (by omega),Nat.mul_zero,Nat.add_zero,gB] at f_
       refine⟨q,o.set (i+B) c,by rw[List.length_set];exact fZ,m9 fl mB,fun j aA=>?_,?_,f5,V.put _ _ _ (by omega)⟩
       · rw[nG _ _ (by omega),if_neg (by omega)]
         exact av j (by omega)
       · rw[f_,l7,<-uC,Nat.add_mul,al,Nat.mul_assoc]
   · have jj:i=A:=by omega
     subst jj
     have H:=lj
     have K:=ky f0 f1 f5 f6 f7 f8 f17 f18 f19 f20 f24 f25 f26;clear f0 f1 f5 f6 f7 f8 f17 f18 f19 f20 f24 f25 f26
     refine bu [0,1,5,6,7,8,17,18,19,20,24,25,26] fun F k=>?_;clear K H
     obtain⟨f0,f1,f5,f6,f7,f8,f17,f18,f19,f20,f24,f25,f26⟩:=k
     exact ⟨q,o,fZ,fl,av,al,f5,V.bump _ _ (by omega)⟩
 · rintro s ag ⟨q,o,fZ,fl,av,al,dm,V⟩
   rw[Nat.mod_eq_of_lt DK] at al
   clear f5 f19
   have f5:=dm
   have ds:=V.cells
   have b7:=o5 (e:=false) fl (show o.length<=1073741824 by omega)
   rw[al] at b7
   have ef:=zA (show o.length<=A+B by omega)
   have mV:=zz o
   have az:=qb o
   have hle:A+B<=(bm o).length:=by omega
   have K:=f5;clear f5
   refine bN [4,5] fun F k=>?_;clear K
   obtain⟨f4,f5⟩:=k
   rw[show (o.map fun n=>I.int .u32 (Z n))=bm o from rfl] at b7
   have H:=bA ds b7 ef mV hle
   have K:=br f4 f5;clear f4 f5
   exact a9 [4,5]
end
section
attribute [local irreducible] a'
attribute [local simp] c2 cN cq
noncomputable def DO:FuncId->Option (List I->Option I):=cf [(170,kG),(185,o8)]
theorem LQ:∀f T,DO f=some T->aG Tryz.prog G f T:=cg (by simp only[List.forall_mem_cons];exact ⟨p7,zh,fun _ h=>absurd h (by simp)⟩)
theorem V6:DO 170=some kG:=rfl
theorem V7:DO 185=some o8:=rfl
attribute [local simp] V6 V7
theorem V8 {a L k n:Nat} (a4:a<aj L) (ag:k<=n):a/aj (min k L)%aj (min n L - min k L)=a%aj n/aj k:=by
 by_cases U:n<=L
 · rw[Nat.min_eq_left (by omega),Nat.min_eq_left U,<-Nat.mod_mul_right_div_self,<-gB,show k+(n - k)=n by omega]
 · rw[Nat.min_eq_right (show L<=n by omega),Nat.mod_eq_of_lt (Nat.lt_of_lt_of_le a4 (lH (by omega:L<=n)))]
   by_cases h2:k<=L
   · rw[Nat.min_eq_left h2,Nat.mod_eq_of_lt]
     rw[Nat.div_lt_iff_lt_mul (jD k),<-gB,show L - k+k=L by omega]
     exact a4
   · rw[Nat.min_eq_right (by omega),Nat.sub_self,fk,Nat.mod_one,Nat.div_eq_of_lt (Nat.lt_of_lt_of_le a4 (lH (by omega)))]
noncomputable def q5:List I->Option I:=a7 (fun z:Nat × Nat × Nat=>(aa z.1).length<=1000000000/\z.2.1<=z.2.2/\z.2.2<=1000000000000) (fun z=>[af z.1,aI z.2.1,aI z.2.2]) (fun z=>af (z.1%aj z.2.2/aj z.2.1))
theorem wS (z:Nat × Nat × Nat) (h:(aa z.1).length<=1000000000/\z.2.1<=z.2.2/\z.2.2<=1000000000000) {args:List I} (he:args.map I.loose= [af z.1,aI z.2.1,aI z.2.2]):q5 args=some (af (z.1%aj z.2.2/aj z.2.1)):=bk (fun z w h=>by simp only[List.cons.injEq,I.int.injEq,I.bool.injEq,I.sl.injEq,b4,bZ,bX,b_,b9,bz,bI,b8,bp,true_and,and_true] at h;simp[h]) z h he
theorem LR:aG Tryz.prog G 252 q5:=by
 refine bj mixed LQ Kb fun z av=>?_
 obtain⟨a,k,n⟩:=z
 obtain⟨bt,ag,ak⟩:=av
 simp only at bt ag ak|-
 obtain⟨L,bd⟩:∃L,L=(aa a).length:=⟨_,rfl⟩
 have a4:a<aj L:=cu.1 (by omega)
 have aC:=dp a
 have b7:=o5 (e:=true) ((aC.drop (min k L)).take (min n L - min k L)) (by simp;omega)
 rw[TZ (aC.drop _),C4 aC,cq,V8 a4 ag,List.map_take,List.map_drop] at b7
 have cG:=um k L
 have dn:=um n L
 have U:min k L<=min n L:=by omega
 have h2:min n L<=L:=Nat.min_le_right _ _
 generalize a%aj n/aj k=r at*
 generalize ab:min k L=i at*
 generalize aA:min n L=j at*
 have aw:((aa a).map fun n=>I.int .u32 (Z n)).all (fun e=>e.cells.length == 1)=true:=by simp[I.cells]
 unfold i252
 refine aM [0,1,2,6] fun F K=>?_
 obtain⟨f0,f1,f2,f6⟩:=K
 have H:=fH bd.symm ab aA cG dn U h2 aw b7
 have K:=bK f0 f1 f2 f6;clear f0 f1 f2 f6
 exact a9 [0,1,2,6]
noncomputable def k0:List I->Option I:=a7 (fun z:Nat × Nat=>(aa z.1).length<=1000000000/\(aa z.2).length<=1000000000) (fun z=>[af z.1,af z.2]) (fun z=>af (z.1 - z.2))
theorem DP (z:Nat × Nat) (h:(aa z.1).length<=1000000000/\(aa z.2).length<=1000000000) {args:List I} (he:args.map I.loose= [af z.1,af z.2]):k0 args=some (af (z.1 - z.2)):=bk (fun z w h=>by simp only[List.cons.injEq,I.int.injEq,I.bool.injEq,I.sl.injEq,b4,bZ,bX,b_,b9,bz,bI,b8,bp,true_and,and_true] at h;simp[h]) z h he
theorem DQ:aG Tryz.prog G 257 k0:=by
 refine bj mixed LQ Ke fun z av=>?_
 obtain⟨a,b⟩:=z
 obtain⟨bt,bm⟩:=av
 simp only at bt bm|-
 have t:=wK (a:=a) (b:=b) (e:=false) (e':=false) bt bm
 unfold i257
 by_cases h:a<b
 · rw[if_pos h] at t
   have dq:a - b=0:=by omega
   rw[dq]
   have dS:=eD
   refine aM [0,1,4,5] fun F K=>?_
   obtain⟨f0,f1,f4,f5⟩:=K
   have H:=t
   have K:=bK f0 f1 f4 f5;clear f0 f1 f4 f5
   repeat' (first|refine dE ?_|refine dF ?_|((first|refine et ?_|refine eu ?_|refine ew ?_|exact dH|refine dG ?_);try(refine d' [0,1,4,5] fun F k=>?_;replace K:=k;clear k))|(refine dI (fun J=>?_) (fun J=>?_)<;>first|(exfalso;simp(disch:=omega) [H] at J;done)|(exfalso;simp at J;omega)|simp at J)|((first|refine bU ?_|refine c5 ?_);simp(disch:=omega) [H,K,dS])|exact trivial)
   all_goals obtain⟨f0,f1,f4,f5⟩:=K
 · rw[if_neg h] at t
   generalize a - b=c at*
   refine aM [0,1,4,5] fun F K=>?_
   obtain⟨f0,f1,f4,f5⟩:=K
   have H:=t
   have K:=bK f0 f1 f4 f5;clear f0 f1 f4 f5
   exact a9 [0,1,4,5]
theorem DR:∀z w:Nat × Nat,(fun z:Nat × Nat=>[af z.1,af z.2]) z=(fun z:Nat × Nat=>[af z.1,af z.2]) w->(fun z:Nat × Nat=>af (z.1*z.2)) z=(fun z:Nat × Nat=>af (z.1*z.2)) w:=fun z w h=>by simp only at h|-;first|(simp only[List.cons.injEq,I.int.injEq,I.bool.injEq,I.sl.injEq,b4,bZ,bX,b_,b9,bz,bI,b8,bp,true_and,and_true] at h;simp[h];done)|(simp only[I.agg.injEq,List.cons.injEq,I.int.injEq,I.bool.injEq,I.sl.injEq,b4,bZ,bX,b_,b9,bz,bI,b8,bp,true_and,and_true] at h;simp[h])
noncomputable def sH:List I->Option I:=a7 (fun z:Nat × Nat=>(aa z.1).length<=1000000/\(aa z.2).length<=1000000) (fun z:Nat × Nat=>[af z.1,af z.2]) (fun z:Nat × Nat=>af (z.1*z.2))
theorem LS (z:Nat × Nat) (h:(aa z.1).length<=1000000/\(aa z.2).length<=1000000) {args:List I} (he:args.map I.loose= [af z.1,af z.2]):sH args=some (af (z.1*z.2)):=bk DR z h he
noncomputable def uH (N:Nat):List I->Option I:=a7 (fun z:Nat × Nat=>((aa z.1).length<=1000000/\(aa z.2).length<=1000000)/\(max (aa z.1).length (aa z.2).length)<N) (fun z:Nat × Nat=>[af z.1,af z.2]) (fun z:Nat × Nat=>af (z.1*z.2))
theorem DS {N:Nat} (z:Nat × Nat) (h:((aa z.1).length<=1000000/\(aa z.2).length<=1000000)/\(max (aa z.1).length (aa z.2).length)<N) {args:List I} (he:args.map I.loose= [af z.1,af z.2]):uH N args=some (af (z.1*z.2)):=bk DR z h he
theorem V9 (h:∀N,aG Tryz.prog G 202 (uH N)->aG Tryz.prog G 202 (uH (N+1))):aG Tryz.prog G 202 sH:=I' DR (fun z:Nat × Nat=>max (aa z.1).length (aa z.2).length) h
noncomputable def sI (N:Nat):FuncId->Option (List I->Option I):=cf [(202,uH N),(203,uG),(252,q5),(257,k0),(174,jE),(172,lK)]
theorem V_ {N:Nat} (h:aG Tryz.prog G 202 (uH N)):∀f T,sI N f=some T->aG Tryz.prog G f T:=cg (by simp only[List.forall_mem_cons];exact ⟨h,LP,LR,DQ,ux,zi,fun _ h=>absurd h (by simp)⟩)
theorem V' (N:Nat):sI N 202=some (uH N):=rfl
theorem Wa (N:Nat):sI N 203=some uG:=rfl
theorem Wb (N:Nat):sI N 252=some q5:=rfl
theorem Wc (N:Nat):sI N 257=some k0:=rfl
theorem Wd (N:Nat):sI N 174=some jE:=rfl
theorem We (N:Nat):sI N 172=some lK:=rfl
attribute [local simp] V' Wa Wb Wc Wd We
theorem Wf {P a0 a1 b0 b1:Nat}:a0*b0+(((a0+a1)*(b0+b1) -(a0*b0+a1*b1))*P+a1*b1*(P*P))=(a0+P*a1)*(b0+P*b1):=by
 have e:(a0+a1)*(b0+b1)=(a0*b0+a1*b1)+(a0*b1+a1*b0):=by grind
 rw[e,Nat.add_sub_cancel_left];grind
theorem LU:aG Tryz.prog G 202 sH:=by
 refine V9 fun N a8=>?_
 refine bj mixed (V_ a8) J1 fun z av=>?_
 obtain⟨a,b⟩:=z
 obtain⟨⟨bt,bm⟩,gd⟩:=av
 simp only at bt bm gd|-
 obtain⟨L,bd⟩:∃L,L=(aa a).length:=⟨_,rfl⟩
 obtain⟨M,ll⟩:∃M,M=(aa b).length:=⟨_,rfl⟩
 obtain⟨n,ak⟩:∃n,n=max L M:=⟨_,rfl⟩
 have cG:=uk L M
 have dn:=um L M
 rw[<-ak] at cG
 rw[<-bd] at gd bt
 rw[<-ll] at gd bm
 have a4:a<aj n:=cu.1 (by omega)
 have bw:b<aj n:=cu.1 (by omega)
 unfold i202
 by_cases pK:min L M<4
 · have t:=LO (a,b) ⟨by simp only;omega,by simp only;omega⟩ (args:=[af a,af b]) (by simp)
   simp only at t
   generalize a*b=c at*
   refine aM [0,1,4,5,6,7,8,9,10,11,12,13,24] fun F K=>?_
   obtain⟨f0,f1,f4,f5,f6,f7,f8,f9,f10,f11,f12,f13,f24⟩:=K
   have H:=c6 bd.symm ll.symm cG dn pK t
   have K:=ky f0 f1 f4 f5 f6 f7 f8 f9 f10 f11 f12 f13 f24;clear f0 f1 f4 f5 f6 f7 f8 f9 f10 f11 f12 f13 f24
   exact a9 [0,1,4,5,6,7,8,9,10,11,12,13,24]
 · obtain⟨k,ag⟩:∃k,k=(n+1)/2:=⟨_,rfl⟩
   have lv:k<n:=by omega
   have b6:∀x,x<aj n->q5 [af x,aI 0,aI k]=some (af (x%aj k)):=fun x ae=>by
    have:=wS (x,0,k) ⟨by simp only;have:=cu.2 ae;omega,Nat.zero_le _,by simp only;omega⟩ (args:=[af x,aI 0,aI k]) (by simp)
    simpa[fk] using this
   have bb:∀x,x<aj n->q5 [af x,aI k,aI n]=some (af (x/aj k)):=fun x ae=>by
    have:=wS (x,k,n) ⟨by simp only;have:=cu.2 ae;omega,by simp only;omega,by simp only;omega⟩ (args:=[af x,aI k,aI n]) (by simp)
    simpa[Nat.mod_eq_of_lt ae] using this
   have Wg:=b6 a a4
   have LV:=bb a a4
   have Wh:=b6 b bw
   have LW:=bb b bw
   have tZ:∀x,(aa (x%aj k)).length<=k:=fun x=>cu.2 (Nat.mod_lt _ (jD k))
   have bH:∀x,x<aj n->(aa (x/aj k)).length<=n - k:=fun x ae=>cu.2 (by
    rw[Nat.div_lt_iff_lt_mul (jD k),<-gB,show n - k+k=n by omega];exact ae)
   have ahc:=tZ a
   have ahd:=bH a a4
   have ahe:=tZ b
   have ahf:=bH b bw
   have fp:a*b=(a%aj k+aj k*(a/aj k))*(b%aj k+aj k*(b/aj k)):=by rw[Nat.mod_add_div,Nat.mod_add_div]
   rw[fp]
   generalize a%aj k=a0 at*
   generalize a/aj k=a1 at*
   generalize b%aj k=b0 at*
   generalize b/aj k=b1 at*
   have ahg:=ki a0 a1
   have ahh:=ki b0 b1
   have ahi:=kE a0 b0
   have ahj:=kE a1 b1
   have ls:=kE (a0+a1) (b0+b1)
   have lt:=ki (a0*b0) (a1*b1)
   have lm:=fB (Nat.sub_le ((a0+a1)*(b0+b1)) (a0*b0+a1*b1))
   have fin:=Wf (P:=2^(32*k)) (a0:=a0) (a1:=a1) (b0:=b0) (b1:=b1)
   rw[<-Nat.pow_add,show 32*k+32*k=64*k by omega] at fin
   have Wi:(a0+2^(32*k)*a1)*(b0+2^(32*k)*b1)=(a0+aj k*a1)*(b0+aj k*b1):=by rw[kF]
   rw[Wi] at fin
   have t1:=DS (N:=N) (a0,b0) ⟨⟨by simp only;omega,by simp only;omega⟩,by simp only;omega⟩ (args:=[af a0,af b0]) (by simp)
   have t2:=DS (N:=N) (a1,b1) ⟨⟨by simp only;omega,by simp only;omega⟩,by simp only;omega⟩ (args:=[af a1,af b1]) (by simp)
   have t3:=DS (N:=N) (a0+a1,b0+b1) ⟨⟨by simp only;omega,by simp only;omega⟩,by simp only;omega⟩ (args:=[af (a0+a1),af (b0+b1)]) (by simp)
   have s1:=m' (a:=a0) (b:=a1) (e:=false) (e':=false) (by omega) (by omega)
   have s2:=m' (a:=b0) (b:=b1) (e:=false) (e':=false) (by omega) (by omega)
   have iO:=m' (a:=a0*b0) (b:=a1*b1) (e:=false) (e':=false) (by omega) (by omega)
   have mb:=DP ((a0+a1)*(b0+b1),a0*b0+a1*b1) ⟨by simp only;omega,by simp only;omega⟩ (args:=[af ((a0+a1)*(b0+b1)),af (a0*b0+a1*b1)]) (by simp)
   simp only at t1 t2 t3 mb
   generalize (a0+a1)*(b0+b1) -(a0*b0+a1*b1)=mid at*
   have kI:=sC (a:=mid) (n:=32*k) (e:=false) (by omega) (by omega)
   have oi:=sC (a:=a1*b1) (n:=64*k) (e:=false) (by omega) (by omega)
   have vK:=kE mid (2^(32*k))
   have QI:=kE (a1*b1) (2^(64*k))
   have DT:(aa (2^(32*k))).length<=k+1:=cu.2 (by rw[<-kF,ea];have:=jD k;omega)
   have ahk:(aa (2^(64*k))).length<=2*k+1:=cu.2 (by rw[show 64*k=32*(2*k) by omega,<-kF,ea];have:=jD (2*k);omega)
   have og:=m' (a:=mid*2^(32*k)) (b:=a1*b1*2^(64*k)) (e:=false) (e':=false) (by omega) (by omega)
   have QJ:=ki (mid*2^(32*k)) (a1*b1*2^(64*k))
   have oj:=m' (a:=a0*b0) (b:=mid*2^(32*k)+a1*b1*2^(64*k)) (e:=false) (e':=false) (by omega) (by omega)
   rw[fin] at oj
   generalize (a0+aj k*a1)*(b0+aj k*b1)=c at*
   generalize mid*2^(32*k)+a1*b1*2^(64*k)=bY at*
   generalize mid*2^(32*k)=bP at*
   generalize a1*b1*2^(64*k)=cr at*
   generalize a0*b0+a1*b1=cS at*
   generalize (a0+a1)*(b0+b1)=kR at*
   generalize a0*b0=mo at*
   generalize a1*b1=j5 at*
   generalize a0+a1=n8 at*
   generalize b0+b1=ahl at*
   have ca:IntKind.i64.wrap (Z 32*Z k)=Z (32*k):=pZ (by omega)
   have dc:IntKind.i64.wrap (Z 64*Z k)=Z (64*k):=pZ (by omega)
   have gn:(n+1)/2=k:=ag.symm
   refine aM [0,1,4,5,6,7,8,9,10,11,12,13,24] fun F K=>?_
   obtain⟨f0,f1,f4,f5,f6,f7,f8,f9,f10,f11,f12,f13,f24⟩:=K
   have H:=S0 bd.symm ll.symm cG dn pK ca dc gn Wg LV Wh LW t1 t2 t3 s1 s2 iO mb kI oi og oj
   have K:=ky f0 f1 f4 f5 f6 f7 f8 f9 f10 f11 f12 f13 f24;clear f0 f1 f4 f5 f6 f7 f8 f9 f10 f11 f12 f13 f24
   exact a9 [0,1,4,5,6,7,8,9,10,11,12,13,24]
end
section
attribute [local irreducible] a'
attribute [local simp] c2 cN cq
noncomputable def zB:FuncId->Option (List I->Option I):=cf [(170,kG),(185,o8),(257,k0)]
theorem LX:∀f T,zB f=some T->aG Tryz.prog G f T:=cg (by simp only[List.forall_mem_cons];exact ⟨p7,zh,DQ,fun _ h=>absurd h (by simp)⟩)
theorem Wj:zB 170=some kG:=rfl
theorem Wk:zB 185=some o8:=rfl
theorem Wl:zB 257=some k0:=rfl
attribute [local simp] Wj Wk Wl
def LY (a L m:Nat) (s:aK):Prop:=∃q o r,o.length=L/\Small o/\(∀j,j<m->aD o j=0)/\r<3/\3*val o+aj m*r=aj m*(a/aj m)/\s.F 3= .ref q 0 L L/\s.F 4=e_ r/\fa s.h q o
theorem Wm {o o' P B y v q r c d:Nat} (al:o'+P*y=o+P*v) (aQ:y=0) (h:3*o+P*B*c=P*B*q) (a3:c*B+d=3*v+r):3*o'+P*r=P*(d+B*q):=by
 subst aQ
 have e:P*(c*B+d)=P*(3*v+r):=by rw[a3]
 grind
theorem LZ {r x:Nat} (ae:x<4294967296):r*4294967296|||x=r*4294967296+x:=by
 have e:(4294967296:Nat)=2^32:=by decide
 rw[e] at ae|-
 rw[Nat.mul_comm,Nat.two_pow_add_eq_or_of_lt ae]
theorem Wn {a o m r x:Nat} (aT:r<3) (ae:x<4294967296) (iP:x=a/aj m%4294967296) (al:3*o+aj (m+1)*r=aj (m+1)*(a/aj (m+1))):
 ∃R,r*4294967296=R/\R|||x=R+x/\R+x<18446744073709551616/\(R+x)/3<4294967296/\(R+x)/3<18446744073709551616/\
  ∀o',o'+aj m*0=o+aj m*((R+x)/3)->3*o'+aj m*((R+x)%3)=aj m*(a/aj m):=by
 refine⟨r*4294967296,rfl,LZ ae,by omega,by omega,by omega,fun o' ay=>?_⟩
 · rw[ea] at al
   have:=Wm ay rfl al (show r*4294967296+x=3*((r*4294967296+x)/3)+(r*4294967296+x)%3 by omega)
   rw[this,iP,<-ea,qS,Nat.mod_add_div]
theorem sJ:(Z 0<=(-1:Int))=False:=eq_false (by decide)
theorem DU:(Z 0<(3:Int))=True:=eq_true (by decide)
theorem DV:(Z 1<(3:Int))=True:=eq_true (by decide)
theorem DW:(Z 2<(3:Int))=True:=eq_true (by decide)
noncomputable def sK:List I->Option I:=a7 (fun z:Nat=>(aa z).length<=100000000/\z%3=0) (fun z=>[af z]) (fun z=>af (z/3))
theorem Wo (z:Nat) (h:(aa z).length<=100000000/\z%3=0) {args:List I} (he:args.map I.loose= [af z]):sK args=some (af (z/3)):=bk (fun z w h=>by simp only[List.cons.injEq,I.int.injEq,I.bool.injEq,I.sl.injEq,b4,bZ,bX,b_,b9,bz,bI,b8,bp,true_and,and_true] at h;simp[h]) z h he
theorem Wp:aG Tryz.prog G 258 sK:=by
 refine bj mixed LX Kf fun a av=>?_
 obtain⟨bt,aB⟩:=av
 have aC:=dp a
 obtain⟨L,bd⟩:∃L,L=(aa a).length:=⟨_,rfl⟩
 have a4:a<aj L:=cu.1 (by omega)
 have aS:Z L*4<=140737488355328:=by simp only[Z];omega
 have sF:IntKind.i64.wrap (Z L - Z 1)=eQ L:=jT (by omega)
 unfold i258
 refine aM [0,2,3,4,5,13] fun F K=>?_
 obtain⟨f0,f2,f3,f4,f5,f13⟩:=K
 have H:=bK bd.symm aS sF (@zy)
 have K:=c6 f0 f2 f3 f4 f5 f13;clear f0 f2 f3 f4 f5 f13
 refine bu [0,2,3,4,5,13] fun F k=>?_;clear K H
 obtain⟨f0,f2,f3,f4,f5,f13⟩:=k
 refine mr (fun m s=>m<=L/\LY a L m s/\s.F 5= .int .i64 (eQ m)) (LY a L 0) (fun _=>False) L ?_ ?_ ?_ (fun _ _ h=>h.elim)
 · refine⟨Nat.le_refl _,⟨_,List.replicate L 0,0,by simp,p5 _,fun j _=>wA _ _,by decide,by simp[sn,Nat.div_eq_of_lt a4],f3,f4,⟨by simp[ar],by simp,by simp⟩⟩,f5⟩
 · rintro m s ag ⟨hm,⟨q,o,r,fZ,fl,av,aT,al,ej,fV,V⟩,dm⟩
   replace f0:=(ag 0 rfl).trans f0
   clear f3 f4 f5
   have f3:=ej
   have f4:=fV
   have f5:=dm
   have K:=bK f0 f3 f4 f5;clear f0 f3 f4 f5
   refine bN [0,3,4,5,13] fun F k=>?_;clear K
   obtain⟨f0,f3,f4,f5,f13⟩:=k
   cases m with
   | zero=>
     rw[p3] at f5
     have H:=(@sJ)
     have K:=bA f0 f3 f4 f5 f13;clear f0 f3 f4 f5 f13
     refine bu [0,3,4,5,13] fun F k=>?_;clear K H
     obtain⟨f0,f3,f4,f5,f13⟩:=k
     exact ⟨q,o,r,fZ,fl,av,aT,al,f3,f4,V.bump _ _ (by omega)⟩
   | succ m=>
     rw[ob] at f5
     have ae:=aC.aD m
     have nc:=(jS (show m<(aa a).length by omega)).symm
     have uC:=fY a m
     have go:=kc (show m<o.length by omega)
     have sz:=kH (show 0<o.length by omega)
     generalize iP:aD (aa a) m=x at*
     obtain⟨R,sl,jJ,DD,wB,Wq,fT⟩:=Wn aT ae uC al
     have st:=pb o m ((R+x)/3)
     have ds:=V.cells
     have eT:=V.cp
     have sF:IntKind.i64.wrap (Z m - Z 1)=eQ m:=jT (by omega)
     have De:m<L:=by omega
     clear al uC
     have H:=wi ds eT nc go iP sl jJ DD Wq wB sz st sF De bd.symm
     have K:=bA f0 f3 f4 f5 f13;clear f0 f3 f4 f5 f13
     refine bu [0,3,4,5,13] fun F k=>?_;clear K H
     obtain⟨f0,f3,f4,f5,f13⟩:=k
     have f_:=m8 ((R+x)/3) (show m<o.length by omega)
     rw[av m (by omega)] at f_
     refine⟨m,Nat.lt_succ_self m,by omega,⟨q,o.set m ((R+x)/3),(R+x)%3,by rw[List.length_set];exact fZ,m9 fl wB,fun j aA=>?_,by omega,fT _ f_,f3,f4,V.put _ _ _ (by omega)⟩,rfl⟩
     · rw[nG _ _ (by omega),if_neg (by omega)]
       exact av j (by omega)
 · rintro s ag ⟨q,o,r,fZ,fl,av,aT,al,ej,fV,V⟩
   rw[fk,Nat.div_one] at al
   have lC:val o=a/3:=by omega
   clear f3 f4 f5
   have f3:=ej
   have ds:=V.cells
   have b7:=o5 (e:=false) fl (show o.length<=1073741824 by omega)
   rw[lC] at b7
   have ef:=zA (show o.length<=L by omega)
   have mV:=zz o
   have az:=qb o
   have hle:L<=(bm o).length:=by omega
   have K:=f3;clear f3
   refine bN [2,3] fun F k=>?_;clear K
   obtain⟨f2,f3⟩:=k
   rw[show (o.map fun n=>I.int .u32 (Z n))=bm o from rfl] at b7
   have H:=bA ds b7 ef mV hle
   have K:=br f2 f3;clear f2 f3
   exact a9 [2,3]
noncomputable def zC:List I->Option I:=a7 (fun z:Nat × Nat=>(aa z.1).length<=1000000000/\(aa z.2).length<=1000000000) (fun z=>[af z.1,af z.2]) (fun z=> .bL [af (if z.1<z.2 then z.2 - z.1 else z.1 - z.2),.bool (decide (z.1<z.2))])
theorem Wr (z:Nat × Nat) (h:(aa z.1).length<=1000000000/\(aa z.2).length<=1000000000) {args:List I} (he:args.map I.loose= [af z.1,af z.2]):zC args=some (.bL [af (if z.1<z.2 then z.2 - z.1 else z.1 - z.2),.bool (decide (z.1<z.2))]):=bk (fun z w h=>by simp only[List.cons.injEq,I.int.injEq,I.bool.injEq,I.sl.injEq,b4,bZ,bX,b_,b9,bz,bI,b8,bp,true_and,and_true] at h;simp[h]) z h he
theorem Ws:aG Tryz.prog G 280 zC:=by
 refine bj mixed LX Ko fun z av=>?_
 obtain⟨a,b⟩:=z
 obtain⟨bt,bm⟩:=av
 simp only at bt bm|-
 have t:=wK (a:=a) (b:=b) (e:=false) (e':=false) bt bm
 unfold i280
 by_cases h:a<b
 · rw[if_pos h] at t
   have t2:=DP (b,a) ⟨bm,bt⟩ (args:=[af b,af a]) (by simp)
   simp only at t2
   rw[if_pos h,decide_eq_true h]
   generalize b - a=c at*
   refine aM [0,1,4,5,6,7,14] fun F K=>?_
   obtain⟨f0,f1,f4,f5,f6,f7,f14⟩:=K
   have H:=br t t2
   have K:=db f0 f1 f4 f5 f6 f7 f14;clear f0 f1 f4 f5 f6 f7 f14
   exact a9 [0,1,4,5,6,7,14]
 · rw[if_neg h] at t
   rw[if_neg h,decide_eq_false h]
   generalize a - b=c at*
   refine aM [0,1,4,5,6,7,14] fun F K=>?_
   obtain⟨f0,f1,f4,f5,f6,f7,f14⟩:=K
   have H:=t
   have K:=db f0 f1 f4 f5 f6 f7 f14;clear f0 f1 f4 f5 f6 f7 f14
   exact a9 [0,1,4,5,6,7,14]
noncomputable def zD:FuncId->Option (List I->Option I):=cf [(174,jE),(172,lK),(280,zC)]
theorem Wt:∀f T,zD f=some T->aG Tryz.prog G f T:=cg (by simp only[List.forall_mem_cons];exact ⟨ux,zi,Ws,fun _ h=>absurd h (by simp)⟩)
theorem Wu:zD 174=some jE:=rfl
theorem Wv:zD 172=some lK:=rfl
theorem Ww:zD 280=some zC:=rfl
attribute [local simp] Wu Wv Ww
def mc (a b c:Nat):Nat:=if a+c<b then b -(a+c) else a+c - b
noncomputable def uI:List I->Option I:=a7 (fun z:Nat × Nat × Nat=>(aa z.1).length<=10000000/\(aa z.2.1).length<=10000000/\(aa z.2.2).length<=10000000) (fun z=>[.agg [af z.1,af z.2.1,af z.2.2]]) (fun z=> .bL [af (z.1+z.2.2+z.2.1),af (mc z.1 z.2.1 z.2.2),af (z.1+(z.2.1*2^1+z.2.2*2^2)),.bool (decide (z.1+z.2.2<z.2.1))])
theorem L0 (z:Nat × Nat × Nat) (h:(aa z.1).length<=10000000/\(aa z.2.1).length<=10000000/\(aa z.2.2).length<=10000000) {args:List I} (he:args.map I.loose= [.agg [af z.1,af z.2.1,af z.2.2]]):uI args=some (.bL [af (z.1+z.2.2+z.2.1),af (mc z.1 z.2.1 z.2.2),af (z.1+(z.2.1*2^1+z.2.2*2^2)),.bool (decide (z.1+z.2.2<z.2.1))]):=bk (fun z w h=>by simp only[I.agg.injEq,List.cons.injEq,I.int.injEq,I.bool.injEq,I.sl.injEq,b4,bZ,bX,b_,b9,bz,bI,b8,bp,true_and,and_true] at h;simp[h]) z h he
theorem Wx:aG Tryz.prog G 256 uI:=by
 refine bj mixed Wt Kd fun z av=>?_
 obtain⟨a,b,c⟩:=z
 obtain⟨bt,bm,lc⟩:=av
 simp only at bt bm lc|-
 have ahm:=ki a c
 have t1:=m' (a:=a) (b:=c) (e:=false) (e':=false) (by omega) (by omega)
 have t2:=m' (a:=a+c) (b:=b) (e:=false) (e':=false) (by omega) (by omega)
 have t3:=Wr (a+c,b) ⟨by simp only;omega,by simp only;omega⟩ (args:=[af (a+c),af b]) (by simp)
 have t4:=sC (a:=b) (n:=1) (e:=false) (by omega) (by omega)
 have t5:=sC (a:=c) (n:=2) (e:=false) (by omega) (by omega)
 have pc:=kE b (2^1)
 have ahn:=kE c (2^2)
 have l0:(aa (2^1)).length<=1:=cu.2 (by rw[mu];decide)
 have kf:(aa (2^2)).length<=1:=cu.2 (by rw[mu];decide)
 have aho:=ki (b*2^1) (c*2^2)
 have t6:=m' (a:=b*2^1) (b:=c*2^2) (e:=false) (e':=false) (by omega) (by omega)
 have t7:=m' (a:=a) (b:=b*2^1+c*2^2) (e:=false) (e':=false) (by omega) (by omega)
 simp only at t3
 rw[show (if a+c<b then b -(a+c) else a+c - b)=mc a b c from rfl] at t3
 generalize decide (a+c<b)=neg at*
 generalize mc a b c=L1 at*
 generalize a+(b*2^1+c*2^2)=bY at*
 generalize b*2^1+c*2^2=bP at*
 generalize b*2^1=cr at*
 generalize c*2^2=cS at*
 generalize a+c+b=kR at*
 generalize a+c=mo at*
 unfold i256
 refine aM [0,1,2,3,4,5,6] fun F K=>?_
 obtain⟨f0,f1,f2,f3,f4,f5,f6⟩:=K
 have H:=j6 (@DU) (@DV) (@DW) t1 t2 t3 t4 t5 t6 t7
 have K:=db f0 f1 f2 f3 f4 f5 f6;clear f0 f1 f2 f3 f4 f5 f6
 exact a9 [0,1,2,3,4,5,6]
end
end
section
set_option maxHeartbeats 8000000
open Go Go.Eng Go.RowKit
def two (ab cj:Nat):Nat:=ab*4294967296+cj
theorem DX {ab cj:Nat} (h:ab<4294967296) (h2:cj<4294967296):∃R,ab*4294967296=R/\R|||cj=two ab cj/\R<18446744073709551616/\two ab cj<18446744073709551616:=
 ⟨_,rfl,LZ h2,by omega,by simp only[two];omega⟩
theorem L2 {ab cj y:Nat} (h:ab<y) (h2:cj<4294967296) (aQ:y<4294967296):two ab cj/y<4294967296/\two ab cj%y<4294967296:=by
 refine⟨?_,Nat.lt_trans (Nat.mod_lt _ (by omega)) aQ⟩
 rw[Nat.div_lt_iff_lt_mul (by omega),two]
 have aB:(ab+1)*4294967296<=y*4294967296:=Nat.mul_le_mul_right _ h
 rw[Nat.add_mul] at aB
 rw[Nat.mul_comm 4294967296]
 omega
def lL (x2 x1 x0 y1 y0:Nat):Nat:=min (two (two x2 x1) x0/two y1 y0) 4294967295
theorem L3 {x2 x1 x0 y1 y0:Nat}:lL x2 x1 x0 y1 y0<=4294967295:=Nat.min_le_right _ _
theorem Wy {q r y1 y0 x2 x1 x0:Nat} (aN:q*y1+r=two x2 x1) (h:q*y0<=two r x0):q*two y1 y0<=two (two x2 x1) x0:=by
 rw[<-aN];simp only[two] at*;grind
theorem Wz {q r y1 y0 x2 x1 x0:Nat} (aN:q*y1+r=two x2 x1) (h:two r x0<q*y0):two (two x2 x1) x0<q*two y1 y0:=by
 rw[<-aN];simp only[two] at*;grind
theorem L4 {q r y1 y0 x2 x1 x0:Nat} (aQ:y1≠0) (aN:q*y1+r=two x2 x1) (pJ:lL x2 x1 x0 y1 y0<=q) (U:q<4294967296) (h:q*y0<=two r x0):q=lL x2 x1 x0 y1 y0:=by
 have h2:q<=two (two x2 x1) x0/two y1 y0:=(Nat.le_div_iff_mul_le (by simp only[two];omega)).2 (Wy aN h)
 unfold lL at*;omega
theorem WA {q r y1 y0 x2 x1 x0:Nat} (aQ:y1≠0) (aN:q*y1+r=two x2 x1) (h:4294967296<=q\/two r x0<q*y0):lL x2 x1 x0 y1 y0<=q - 1/\1<=q:=by
 rcases h with h|h
 · have:=L3 (x2:=x2) (x1:=x1) (x0:=x0) (y1:=y1) (y0:=y0);omega
 · have h2:two (two x2 x1) x0/two y1 y0<q:=(Nat.div_lt_iff_lt_mul (by simp only[two];omega)).2 (Wz aN h)
   unfold lL
   generalize two (two x2 x1) x0/two y1 y0=d at*
   omega
theorem WB {q r y1 y0 x2 x1 x0:Nat} (aQ:y1≠0) (ae:x2<=y1) (WC:x1<4294967296) (jL:y0<4294967296) (aN:q*y1+r=two x2 x1) (pJ:lL x2 x1 x0 y1 y0<=q) (aT:4294967296<=r):q=lL x2 x1 x0 y1 y0:=by
 have U:q*y1<4294967296*y1:=by
  have:x2*4294967296<=y1*4294967296:=Nat.mul_le_mul_right _ ae
  simp only[two] at aN
  rw[Nat.mul_comm 4294967296]
  omega
 have h2:q<4294967296:=Nat.lt_of_mul_lt_mul_right U
 refine L4 aQ aN pJ h2 ?_
 have aB:q*y0<=4294967295*4294967295:=Nat.mul_le_mul (by omega) (by omega)
 simp only[two]
 omega
theorem WD {y1 x2 x1 x0 y0:Nat} (aQ:y1≠0) (iP:x0<4294967296):lL x2 x1 x0 y1 y0<=two x2 x1/y1:=by
 have a3:=Nat.div_add_mod (two x2 x1) y1
 have hm:=Nat.mod_lt (two x2 x1) (Nat.pos_of_ne_zero aQ)
 have:two (two x2 x1) x0/two y1 y0<two x2 x1/y1+1:=by
  generalize two x2 x1=t at*
  rw[Nat.div_lt_iff_lt_mul (by simp only[two];omega)]
  generalize t/y1=q at*
  generalize t%y1=r at*
  subst a3
  simp only[two]
  have e:(q+1)*(y1*4294967296+y0)=q*y1*4294967296+y1*4294967296+(q+1)*y0:=by grind
  have au:(r+1)*4294967296<=y1*4294967296:=Nat.mul_le_mul_right _ hm
  rw[e,Nat.mul_comm y1 q]
  rw[Nat.add_mul] at au
  rw[Nat.add_mul]
  omega
 unfold lL;omega
end
section
set_option maxHeartbeats 8000000
open Go Go.Eng Go.RowKit
attribute [local simp] aY.m aY.o aY.n aY.g fg eF cV cJ c4 evalOp.eq_1 evalOp.eq_2 evalOp.eq_3 evalOp.eq_4 evalOp.eq_5 evalOp.eq_6 evalOp.eq_7 evalOp.eq_8 evalOp.eq_9 evalOp.eq_10 evalOp.eq_11 evalOp.eq_12 evalOp.eq_13 evalOp.eq_14 evalOp.eq_15 evalOp.eq_16 evalOp.eq_17 evalOp.eq_18 evalOp.eq_19 evalOp.eq_20 evalOp.eq_21 evalOp.eq_22 evalOp.eq_23 evalOp.eq_24 evalOp.eq_25 evalOp.eq_27 evalOp.eq_28 evalOp.eq_29 iK aR.ev cI ar ai.new ec I.cells I.cb I.eb I.ei gL gN gM gO gQ gP hY hZ h0 fM fN cut partOf bound elems h4 h5 h6 h7 h8 h9 h_ ia ib ic ie ig gh ih ij ik il im iq ir iu iv iw ix iy iz iA iB iC iD iE iF iG iH iI iJ eE eo dZ e6 gR gf ai.close ai.set gy iL iM iN h3 gg fh eY dv e8 gu fQ e9 gv gw gx e3 e4 e5 e2 gS bp gq gT gr gU gV eW gW eX gX gY gZ fG hX g0 g1 g2 g3 g4 g5 g6 g7 g8 g9 g_ g' ha hb hc hd hf hg hh fP hi hj hk hl hn ho hp hq hr hs ht hv hx hy hz
attribute [local simp high] hU hV hW hA hB hC hD hE hF hG hH hI hJ hK hL hM hN hO hP hQ hR hS hT
attribute [local simp] aF List.getElem?_cons_zero List.getElem?_cons_succ dD cQ fq Nat.mod_eq_of_lt iV iW iX iY fz iZ i_ i'
section
attribute [local irreducible] a'
attribute [local simp] c2 cN cq
noncomputable def L5:FuncId->Option (List I->Option I):=cf [(266,zc)]
theorem DY:∀f T,L5 f=some T->aG Tryz.prog G f T:=cg (by simp only[List.forall_mem_cons];exact ⟨US,fun _ h=>absurd h (by simp)⟩)
theorem WE:L5 266=some zc:=rfl
attribute [local simp] WE
noncomputable def zE:List I->Option I:=a7 (fun z:Nat × Nat × Nat=>z.1<z.2.2/\z.2.1<4294967296/\z.2.2<4294967296) (fun z=>[bl z.1,bl z.2.1,bl z.2.2]) (fun z=> .bL [bl (two z.1 z.2.1/z.2.2),bl (two z.1 z.2.1%z.2.2)])
theorem WG (z:Nat × Nat × Nat) (h:z.1<z.2.2/\z.2.1<4294967296/\z.2.2<4294967296) {args:List I} (he:args.map I.loose= [bl z.1,bl z.2.1,bl z.2.2]):zE args=some (.bL [bl (two z.1 z.2.1/z.2.2),bl (two z.1 z.2.1%z.2.2)]):=bk (fun z w h=>by simp only[List.cons.injEq,I.int.injEq,I.bool.injEq,I.sl.injEq,b4,bZ,bX,b_,b9,bz,bI,b8,bp,true_and,and_true] at h;simp[h]) z h he
theorem WH:aG Tryz.prog G 282 zE:=by
 refine bj mixed DY Kq fun z av=>?_
 obtain⟨ab,cj,y⟩:=z
 obtain⟨U,h2,aB⟩:=av
 simp only at U h2 aB|-
 obtain⟨R,eH,jJ,b1,dW⟩:=DX (show ab<4294967296 by omega) h2
 obtain⟨d1,d2⟩:=L2 U h2 aB
 have aQ:¬y=0:=by omega
 have wT:0<y:=by omega
 have d3:two ab cj/y<18446744073709551616:=by omega
 have d4:y<18446744073709551616:=by omega
 generalize two ab cj=w at*
 unfold i282
 refine aM [0,1,2,6,7,8,15] fun F K=>?_
 obtain⟨f0,f1,f2,f6,f7,f8,f15⟩:=K
 have H:=kx U aQ wT eH jJ b1 dW d1 d2 d3 d4
 have K:=db f0 f1 f2 f6 f7 f8 f15;clear f0 f1 f2 f6 f7 f8 f15
 exact a9 [0,1,2,6,7,8,15]
noncomputable def zF:List I->Option I:=a7 (fun z:Nat=>z<4294967296) (fun z=>[bl z]) (fun z=>aI (32 - dJ z))
theorem WI (z:Nat) (h:z<4294967296) {args:List I} (he:args.map I.loose= [bl z]):zF args=some (aI (32 - dJ z)):=bk (fun z w h=>by simp only[List.cons.injEq,I.int.injEq,I.bool.injEq,I.sl.injEq,b4,bZ,bX,b_,b9,bz,bI,b8,bp,true_and,and_true] at h;simp[h]) z h he
theorem WJ:aG Tryz.prog G 260 zF:=by
 refine bj mixed DY Kh fun n ak=>?_
 have t:=UR (n:=n) ak
 have ad:dJ n<=32:=o4.2 ak
 have hw:IntKind.i64.wrap (Z 32 - Z (dJ n))=Z (32 - dJ n):=cQ ad (by decide)
 unfold i260
 refine aM [0,2] fun F K=>?_
 obtain⟨f0,f2⟩:=K
 have H:=br t hw
 have K:=br f0 f2;clear f0 f2
 exact a9 [0,2]
noncomputable def uJ:List I->Option I:=a7 (fun z:Nat × Nat × Nat × Nat × Nat=>z.1<=z.2.2.2.1/\z.2.1<4294967296/\z.2.2.1<4294967296/\z.2.2.2.1<4294967296/\z.2.2.2.2<4294967296/\z.2.2.2.1≠0) (fun z=>[bl z.1,bl z.2.1,bl z.2.2.1,bl z.2.2.2.1,bl z.2.2.2.2]) (fun z=>e_ (lL z.1 z.2.1 z.2.2.1 z.2.2.2.1 z.2.2.2.2))
theorem WK (z:Nat × Nat × Nat × Nat × Nat) (h:z.1<=z.2.2.2.1/\z.2.1<4294967296/\z.2.2.1<4294967296/\z.2.2.2.1<4294967296/\z.2.2.2.2<4294967296/\z.2.2.2.1≠0) {args:List I} (he:args.map I.loose= [bl z.1,bl z.2.1,bl z.2.2.1,bl z.2.2.2.1,bl z.2.2.2.2]):uJ args=some (e_ (lL z.1 z.2.1 z.2.2.1 z.2.2.2.1 z.2.2.2.2)):=bk (fun z w h=>by simp only[List.cons.injEq,I.int.injEq,I.bool.injEq,I.sl.injEq,b4,bZ,bX,b_,b9,bz,bI,b8,bp,true_and,and_true] at h;simp[h]) z h he
theorem WL:aG Tryz.prog G 261 uJ:=by
 refine bj mixed DY Ki fun z av=>?_
 obtain⟨x2,x1,x0,y1,y0⟩:=z
 obtain⟨h2,U,pM,bq,gJ,aQ⟩:=av
 simp only at h2 U pM bq gJ aQ|-
 obtain⟨R,eH,jJ,b1,dW⟩:=DX (show x2<4294967296 by omega) U
 have WM:=WD (x2:=x2) (x1:=x1) (y0:=y0) aQ pM
 have gs:=fun q r=>L4 (q:=q) (r:=r) (x2:=x2) (x1:=x1) (x0:=x0) (y0:=y0) aQ
 have WN:=fun q r=>WA (q:=q) (r:=r) (x2:=x2) (x1:=x1) (x0:=x0) (y0:=y0) aQ
 have pa:=fun q r=>WB (q:=q) (r:=r) (x2:=x2) (x1:=x1) (x0:=x0) (y0:=y0) aQ h2 U gJ
 generalize lL x2 x1 x0 y1 y0=L6 at*
 generalize two x2 x1=w at*
 have wT:0<y1:=by omega
 have d4:y1<18446744073709551616:=by omega
 have uz:=Nat.div_le_self w y1
 have L7:=Nat.mod_lt w wT
 have WO:=Nat.div_add_mod w y1
 have d5:w/y1<18446744073709551616:=by omega
 unfold i261
 refine aM [0,1,2,3,4,10,11,12,13,41,49] fun F K=>?_
 obtain⟨f0,f1,f2,f3,f4,f10,f11,f12,f13,f41,f49⟩:=K
 have H:=fi aQ wT eH jJ b1 dW d4 d5
 have K:=kx f0 f1 f2 f3 f4 f10 f11 f12 f13 f41 f49;clear f0 f1 f2 f3 f4 f10 f11 f12 f13 f41 f49
 refine bu [0,1,2,3,4,10,11,12,13,41,49] fun F k=>?_;clear K H
 obtain⟨f0,f1,f2,f3,f4,f10,f11,f12,f13,f41,f49⟩:=k
 refine mr (fun q s=>∃r,q*y1+r=w/\L6<=q/\r<4294967296/\s.F 12=e_ q/\s.F 13=e_ r) (fun s=>s.F 12=e_ L6) (fun _=>False) (w/y1) ?_ ?_ ?_ (fun _ _ h=>h.elim)
 · exact ⟨w%y1,by rw[Nat.mul_comm];exact WO,WM,by omega,f12,f13⟩
 · clear eH jJ b1
   rintro q s ag ⟨r,aN,pJ,aT,lM,wU⟩
   replace f2:=(ag 2 rfl).trans f2;replace f3:=(ag 3 rfl).trans f3;replace f4:=(ag 4 rfl).trans f4
   clear f12 f13
   have f12:=lM
   have f13:=wU
   obtain⟨ahp,DZ,dj,kO,D0⟩:=DX aT pM
   have ahq:q<18446744073709551616:=by
    have:q*1<=q*y1:=Nat.mul_le_mul_left q wT
    omega
   have D1:y0<18446744073709551616:=by omega
   have s1:=gs q r aN pJ
   have s2:=WN q r aN
   generalize two r x0=v at*
   have main:(q<4294967296/\q*y0<=v)\/(4294967296<=q\/(q<4294967296/\v<q*y0)):=by omega
   have D2:q<4294967296->q*y0<18446744073709551616:=fun h=>by
    have:q*y0<=4294967295*4294967295:=Nat.mul_le_mul (by omega) (by omega)
    omega
   have K:=bA f2 f3 f4 f12 f13;clear f2 f3 f4 f12 f13
   refine bN [2,3,4,12,13,41,49] fun F k=>?_;clear K
   obtain⟨f2,f3,f4,f12,f13,f41,f49⟩:=k
   rcases main with⟨cG,dn⟩|main
   · have e:=s1 cG dn
     have wV:=D2 cG
     generalize wW:q*y0=L8 at*
     have H:=fH DZ dj kO D0 wW cG dn wV D1
     have K:=db f2 f3 f4 f12 f13 f41 f49;clear f2 f3 f4 f12 f13 f41 f49
     refine bu [2,3,4,12,13,41,49] fun F k=>?_;clear K H
     obtain⟨f2,f3,f4,f12,f13,f41,f49⟩:=k
     first|exact e|(rw[f12,e])
   · obtain⟨iO,mb⟩:=s2 (by omega)
     have aq:(q+18446744073709551615)%18446744073709551616=q - 1:=by omega
     have au:r+y1<18446744073709551616:=by omega
     have l1:(q - 1)*y1+(r+y1)=w:=by
      rw[<-aN]
      obtain⟨p,rfl⟩:∃p,q=p+1:=⟨q - 1,by omega⟩
      rw[Nat.add_sub_cancel,Nat.add_mul];omega
     by_cases wX:4294967296<=r+y1
     · have e:=pa (q - 1) (r+y1) l1 iO wX
       rcases main with cG|⟨cG,dn⟩
       · skip
         have H:=bA cG aq au wX d4
         have K:=db f2 f3 f4 f12 f13 f41 f49;clear f2 f3 f4 f12 f13 f41 f49
         refine bu [2,3,4,12,13,41,49] fun F k=>?_;clear K H
         obtain⟨f2,f3,f4,f12,f13,f41,f49⟩:=k
         first|exact e|(rw[f12,e])
       · have wV:=D2 cG
         generalize wW:q*y0=L8 at*
         have H:=ky DZ dj kO D0 wW cG dn wV D1 aq au wX d4
         have K:=db f2 f3 f4 f12 f13 f41 f49;clear f2 f3 f4 f12 f13 f41 f49
         refine bu [2,3,4,12,13,41,49] fun F k=>?_;clear K H
         obtain⟨f2,f3,f4,f12,f13,f41,f49⟩:=k
         first|exact e|(rw[f12,e])
     · rcases main with cG|⟨cG,dn⟩
       · skip
         have H:=bA cG aq au wX d4
         have K:=db f2 f3 f4 f12 f13 f41 f49;clear f2 f3 f4 f12 f13 f41 f49
         refine bu [2,3,4,12,13,41,49] fun F k=>?_;clear K H
         obtain⟨f2,f3,f4,f12,f13,f41,f49⟩:=k
         exact ⟨q - 1,by omega,r+y1,l1,iO,by omega,by first|rfl|exact f12,by first|rfl|exact f13⟩
       · have wV:=D2 cG
         generalize wW:q*y0=L8 at*
         have H:=ky DZ dj kO D0 wW cG dn wV D1 aq au wX d4
         have K:=db f2 f3 f4 f12 f13 f41 f49;clear f2 f3 f4 f12 f13 f41 f49
         refine bu [2,3,4,12,13,41,49] fun F k=>?_;clear K H
         obtain⟨f2,f3,f4,f12,f13,f41,f49⟩:=k
         exact ⟨q - 1,by omega,r+y1,l1,iO,by omega,by first|rfl|exact f12,by first|rfl|exact f13⟩
 · rintro s ag lM
   clear f12 f13
   have f12:=lM
   have K:=f12;clear f12
   refine bN [10,12] fun F k=>?_;clear K
   obtain⟨f10,f12⟩:=k
   have H:=trivial
   have K:=br f10 f12;clear f10 f12
   exact a9 [10,12]
end
end
end Go.Proofs.YtemiagcencajeaaGreatDoor
