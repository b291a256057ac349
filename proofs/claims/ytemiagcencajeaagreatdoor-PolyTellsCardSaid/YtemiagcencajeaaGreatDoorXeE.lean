/- What the claim needs of the walks, put together by a program (shake.py). -/
import Derived.Test.YtemiagcencajeaaGreatDoorXeD
set_option maxRecDepth 100000
set_option linter.unusedSimpArgs false
set_option linter.unusedVariables false
set_option linter.unusedSectionVars false
namespace Go.Proofs.YtemiagcencajeaaGreatDoor
section
set_option maxHeartbeats 8000000
open Go Go.Eng Go.RowKit
attribute [local simp] aU.m aU.o aU.n aU.g eM dN cE ch cM evalOp.eq_1 evalOp.eq_2 evalOp.eq_3 evalOp.eq_4 evalOp.eq_5 evalOp.eq_6 evalOp.eq_7 evalOp.eq_8 evalOp.eq_9 evalOp.eq_10 evalOp.eq_11 evalOp.eq_12 evalOp.eq_13 evalOp.eq_14 evalOp.eq_15 evalOp.eq_16 evalOp.eq_17 evalOp.eq_18 evalOp.eq_19 evalOp.eq_20 evalOp.eq_21 evalOp.eq_22 evalOp.eq_23 evalOp.eq_24 evalOp.eq_25 evalOp.eq_27 evalOp.eq_28 evalOp.eq_29 hX aQ.ev cg an af.new ds I.cells I.bW I.dk I.dh fU fW fV fX fZ fY hh hi hj e7 e8 cut partOf bound elems hl hn ho hp hq hr hs ht hv hx hy hz fm hA hB hC hD hE hF hG hH hI hJ hK hL hM hN hO hP hQ hR hS hT hU hV hW dM dC dz eF f_ fz af.close af.set fB hY hZ h0 hk fA fy fa dP fj fL fk fl fM fN fO eC eD eE eB f' bD fJ ga fK gb gd eo gf ep gg gh gi e1 hg gj gk gl gm gn gp gq gr gu gv gw gx gy gz gA gB gC gD gE e_ gF gG gH gI gJ gK gL gM gN gO gP gQ gR gS gT
attribute [local simp high] hc hd hf gU gV gW gX gY gZ g0 g1 g2 g3 g4 g5 g6 g7 g8 g9 g_ g' ha hb
attribute [local simp] aD List.getElem?_cons_zero List.getElem?_cons_succ dc cf eY Nat.mod_eq_of_lt ig ih ij ik e2 il im iq
section
attribute [local irreducible] a7
attribute [local simp] c5 cZ ck
def h1 (z:Int):Int:=if z=0 then 0 else if z<0 then -1 else 1
theorem yU {a:Int} {k:Nat}:aY a<=k↔a.natAbs<ah k:=ct
theorem C7 (a:Int):aY (-a)=aY a:=by simp[aY]
theorem ud (a b:Int):aY (a+b)<=max (aY a) (aY b)+1:=by
 have U:(a+b).natAbs<=a.natAbs+b.natAbs:=Int.natAbs_add_le a b
 have h2:=j' a.natAbs b.natAbs
 have az:=h_ U
 simp only[aY] at*;omega
theorem C8 (a b:Int):aY (a - b)<=max (aY a) (aY b)+1:=by
 have:=ud a (-b)
 rw[C7] at this
 rwa [Int.sub_eq_add_neg]
theorem ka (a b:Int):aY (a*b)<=aY a+aY b:=by
 have:=kG a.natAbs b.natAbs
 rwa [<-Int.natAbs_mul] at this
theorem KB (b:Bool) (n:Nat):aY (cC b n)=(ad n).length:=by rw[aY,yN]
noncomputable def KC:FuncId->Option (List I->Option I):=cA [(170,kp)]
theorem Uk:∀f T,KC f=some T->aP Tryz.prog G f T:=cH (by simp only[List.forall_mem_cons];exact ⟨pA,fun _ h=>absurd h (by simp)⟩)
theorem Ul:KC 170=some kp:=rfl
attribute [local simp] Ul
noncomputable def nT:List I->Option I:=bl (fun z:Bool × List Nat=>Small z.2/\z.2.length<=1073741824) (fun z=>[.bool z.1,bY z.2 false]) (fun z=>ax (cC z.1 (val z.2)))
theorem Um (z:Bool × List Nat) (h:Small z.2/\z.2.length<=1073741824) {args:List I} (he:args.map I.loose= [.bool z.1,bY z.2 false]):nT args=some (ax (cC z.1 (val z.2))):=bC (fun z w h=>by simp only[List.cons.injEq,I.int.injEq,I.bool.injEq,I.sl.injEq,cD,cB,cO,cP,cK,bO,b2,cJ,bD,true_and,and_true] at h;simp[h]) z h he
theorem yV:aP Tryz.prog G 84 nT:=by
 refine bB mixed Uk Ie fun z ar=>?_
 obtain⟨b,l⟩:=z
 obtain⟨au,aw⟩:=ar
 simp only at au aw|-
 have t:=oE (e:=false) au aw
 have bE:=CZ b (val l)
 have cp:=yN b (val l)
 unfold i84
 by_cases av:val l=0
 · have aq:ad (val l)= []:=jN.2 av
   have a_:decide (val l≠0)=false:=decide_eq_false (fun h=>h av)
   rw[a_] at bE
   cases b
   · skip
     refine aL [0,1,4,5] fun F K=>?_
     obtain⟨f0,f1,f4,f5⟩:=K
     have H:=bA t aq
     have K:=b4 f0 f1 f4 f5;clear f0 f1 f4 f5
     repeat' (first|refine dY ?_|refine dZ ?_|((first|refine er ?_|refine et ?_|refine eu ?_|exact d'|refine d_ ?_);try(refine eI [0,1,4,5] fun F k=>?_;replace K:=k;clear k))|(refine ea (fun J=>?_) (fun J=>?_)<;>first|(exfalso;simp(disch:=omega) [H] at J;done)|(exfalso;simp at J;omega)|simp at J)|((first|refine bU ?_|refine c9 ?_);simp(disch:=omega) [H,K,bE,cp])|exact trivial)
     all_goals obtain⟨f0,f1,f4,f5⟩:=K
   · skip
     refine aL [0,1,4,5] fun F K=>?_
     obtain⟨f0,f1,f4,f5⟩:=K
     have H:=bA t aq
     have K:=b4 f0 f1 f4 f5;clear f0 f1 f4 f5
     repeat' (first|refine dY ?_|refine dZ ?_|((first|refine er ?_|refine et ?_|refine eu ?_|exact d'|refine d_ ?_);try(refine eI [0,1,4,5] fun F k=>?_;replace K:=k;clear k))|(refine ea (fun J=>?_) (fun J=>?_)<;>first|(exfalso;simp(disch:=omega) [H] at J;done)|(exfalso;simp at J;omega)|simp at J)|((first|refine bU ?_|refine c9 ?_);simp(disch:=omega) [H,K,bE,cp])|exact trivial)
     all_goals obtain⟨f0,f1,f4,f5⟩:=K
 · have aq:0<(ad (val l)).length:=lz.2 av
   have lD:¬ad (val l)= []:=fun h=>av (jN.1 h)
   have a_:decide (val l≠0)=true:=decide_eq_true av
   rw[a_] at bE
   cases b
   · skip
     refine aL [0,1,4,5] fun F K=>?_
     obtain⟨f0,f1,f4,f5⟩:=K
     have H:=bA t aq
     have K:=b4 f0 f1 f4 f5;clear f0 f1 f4 f5
     repeat' (first|refine dY ?_|refine dZ ?_|((first|refine er ?_|refine et ?_|refine eu ?_|exact d'|refine d_ ?_);try(refine eI [0,1,4,5] fun F k=>?_;replace K:=k;clear k))|(refine ea (fun J=>?_) (fun J=>?_)<;>first|(exfalso;simp(disch:=omega) [H] at J;done)|(exfalso;simp at J;omega)|simp at J)|((first|refine bU ?_|refine c9 ?_);simp(disch:=omega) [H,K,bE,cp])|exact trivial)
     all_goals obtain⟨f0,f1,f4,f5⟩:=K
   · skip
     refine aL [0,1,4,5] fun F K=>?_
     obtain⟨f0,f1,f4,f5⟩:=K
     have H:=bt t aq lD
     have K:=b4 f0 f1 f4 f5;clear f0 f1 f4 f5
     repeat' (first|refine dY ?_|refine dZ ?_|((first|refine er ?_|refine et ?_|refine eu ?_|exact d'|refine d_ ?_);try(refine eI [0,1,4,5] fun F k=>?_;replace K:=k;clear k))|(refine ea (fun J=>?_) (fun J=>?_)<;>first|(exfalso;simp(disch:=omega) [H] at J;done)|(exfalso;simp at J;omega)|simp at J)|((first|refine bU ?_|refine c9 ?_);simp(disch:=omega) [H,K,bE,cp])|exact trivial)
     all_goals obtain⟨f0,f1,f4,f5⟩:=K
theorem m' {b:Bool} {n:Nat} (h:(ad n).length<=1073741824):nT [.bool b,ai n]=some (ax (cC b n)):=by
 rw[Um (b,ad n) ⟨dB n,h⟩ (by simp),ck]
noncomputable def su:FuncId->Option (List I->Option I):=cA [(84,nT),(180,yS),(171,m_),(174,jv),(185,oG),(209,yT)]
theorem wo:∀f T,su f=some T->aP Tryz.prog G f T:=cH (by simp only[List.forall_mem_cons];exact ⟨yV,Uh,wb,t',yK,Uj,fun _ h=>absurd h (by simp)⟩)
theorem Un:su 84=some nT:=rfl
theorem Uo:su 180=some yS:=rfl
theorem Up:su 171=some m_:=rfl
theorem Uq:su 174=some jv:=rfl
theorem Ur:su 185=some oG:=rfl
theorem Us:su 209=some yT:=rfl
attribute [local simp] Un Uo Up Uq Ur Us
noncomputable def C9:List I->Option I:=bl (fun z:Int=> -9223372036854775808<=z/\z<9223372036854775808) (fun z=>[.int .i64 z]) (fun z=>ax z)
theorem Ut:aP Tryz.prog G 110 C9:=by
 refine bB mixed wo Is fun z ar=>?_
 unfold i110
 have aw:∀n,n<18446744073709551616->(ad n).length<=2:=fun n h=>ct.2 (by simp only[dR,fp];omega)
 by_cases aD:z<0
 · obtain⟨n,aq⟩:∃n:Nat,z= -(n:Int):=⟨z.natAbs,by omega⟩
   have t1:=KA n (by omega) (args:=[fb n]) (by simp)
   have t2:=m' (b:=true) (n:=n) (by have:=aw n (by omega);omega)
   rw[show cC true n=z by simp[cC,aq]] at t2
   have al:IntKind.i64.wrap (z+Z 1)=z+1:=wrap_i64 (by simp only[Z];omega) (by simp only[Z];omega)
   have ao:IntKind.i64.wrap (-(z+1))=Z (n - 1):=by rw[wrap_i64 (by omega) (by omega)];simp only[Z];omega
   have aV:n - 1+1=n:=by omega
   have bJ:n<18446744073709551616:=by omega
   have eW:n - 1<18446744073709551616:=by omega
   have kO:(z<Z 0)=True:=eq_true aD
   refine aL [0,2,4] fun F K=>?_
   obtain⟨f0,f2,f4⟩:=K
   have H:=e3 t1 t2 al ao aV bJ eW kO
   have K:=bt f0 f2 f4;clear f0 f2 f4
   exact a3 [0,2,4]
 · obtain⟨n,aq⟩:∃n:Nat,z=n:=⟨z.natAbs,by omega⟩
   have t1:=KA n (by omega) (args:=[fb n]) (by simp)
   have t2:=m' (b:=false) (n:=n) (by have:=aw n (by omega);omega)
   rw[show cC false n=z by simp[cC,aq]] at t2
   have bJ:IntKind.u64.wrap z=Z n:=by
    have:=e_ n
    rw[aq];simp only[Z] at this|-;rw[this,Nat.mod_eq_of_lt (by omega)]
   have kO:(z<Z 0)=False:=eq_false aD
   refine aL [0,2,4] fun F K=>?_
   obtain⟨f0,f2,f4⟩:=K
   have H:=b4 t1 t2 bJ kO
   have K:=bt f0 f2 f4;clear f0 f2 f4
   exact a3 [0,2,4]
def kH (b:Bool) (l:List Nat):Bool:=lA l&& !(b&&decide (l= []))
noncomputable def yW:List I->Option I:=bl (fun z:Bool × List Nat=>z.2.length<=1000000000) (fun z=>[.agg [.bool z.1,bY z.2 false]]) (fun z=> .bool (kH z.1 z.2))
theorem Uu (z:Bool × List Nat) (h:z.2.length<=1000000000) {args:List I} (he:args.map I.loose= [.agg [.bool z.1,bY z.2 false]]):yW args=some (.bool (kH z.1 z.2)):=bC (fun z w h=>by simp only[I.agg.injEq,List.cons.injEq,I.int.injEq,I.bool.injEq,I.sl.injEq,cD,cB,cO,cP,cK,bO,b2,cJ,bD,true_and,and_true] at h;simp[h]) z h he
theorem Uv:aP Tryz.prog G 147 yW:=by
 refine bB mixed wo IF fun z ar=>?_
 obtain⟨b,l⟩:=z
 simp only at ar|-
 have t:=Ui l ar (args:=[bY l false]) (by simp)
 have aw:=List.length_eq_zero_iff (l:=l)
 unfold i147
 simp only[kH]
 by_cases h:l= []
 · subst h
   rw[show bY [] false=I.sl [] false from rfl] at t
   cases b<;>cases aH:lA []
   all_goals rw[aH] at t
   · skip
     refine aL [0,1,2] fun F K=>?_
     obtain⟨f0,f1,f2⟩:=K
     have H:=t
     have K:=bt f0 f1 f2;clear f0 f1 f2
     exact a3 [0,1,2]
   · skip
     refine aL [0,1,2] fun F K=>?_
     obtain⟨f0,f1,f2⟩:=K
     have H:=t
     have K:=bt f0 f1 f2;clear f0 f1 f2
     exact a3 [0,1,2]
   · skip
     refine aL [0,1,2] fun F K=>?_
     obtain⟨f0,f1,f2⟩:=K
     have H:=t
     have K:=bt f0 f1 f2;clear f0 f1 f2
     exact a3 [0,1,2]
   · skip
     refine aL [0,1,2] fun F K=>?_
     obtain⟨f0,f1,f2⟩:=K
     have H:=t
     have K:=bt f0 f1 f2;clear f0 f1 f2
     exact a3 [0,1,2]
 · have aq:¬l.length=0:=fun h'=>h (aw.1 h')
   cases b<;>cases aH:lA l
   all_goals rw[aH] at t
   · skip
     refine aL [0,1,2] fun F K=>?_
     obtain⟨f0,f1,f2⟩:=K
     have H:=bt t h aq
     have K:=bt f0 f1 f2;clear f0 f1 f2
     exact a3 [0,1,2]
   · skip
     refine aL [0,1,2] fun F K=>?_
     obtain⟨f0,f1,f2⟩:=K
     have H:=bt t h aq
     have K:=bt f0 f1 f2;clear f0 f1 f2
     exact a3 [0,1,2]
   · skip
     refine aL [0,1,2] fun F K=>?_
     obtain⟨f0,f1,f2⟩:=K
     have H:=bt t h aq
     have K:=bt f0 f1 f2;clear f0 f1 f2
     exact a3 [0,1,2]
   · skip
     refine aL [0,1,2] fun F K=>?_
     obtain⟨f0,f1,f2⟩:=K
     have H:=bt t h aq
     have K:=bt f0 f1 f2;clear f0 f1 f2
     exact a3 [0,1,2]
noncomputable def qM:List I->Option I:=bl (fun z:Int=>True) (fun z=>[ax z]) (fun z=> .int .i64 (h1 z))
theorem C_ (z:Int) (h:True) {args:List I} (he:args.map I.loose= [ax z]):qM args=some (.int .i64 (h1 z)):=bC (fun z w h=>by simp only[List.cons.injEq,I.int.injEq,I.bool.injEq,I.sl.injEq,cD,cB,cO,cP,cK,bO,b2,cJ,bD,true_and,and_true] at h;simp[h]) z h he
theorem C':aP Tryz.prog G 87 qM:=by
 refine bB mixed wo Ih fun z _=>?_
 unfold i87
 by_cases aD:z=0
 · subst aD
   have dS:ad 0= []:=eS
   have dE:bc 0=false:=rfl
   have e:h1 0=Z 0:=rfl
   refine aL [0,1,2,3,8] fun F K=>?_
   obtain⟨f0,f1,f2,f3,f8⟩:=K
   have H:=bA dS dE
   have K:=bw f0 f1 f2 f3 f8;clear f0 f1 f2 f3 f8
   repeat' (first|refine dY ?_|refine dZ ?_|((first|refine er ?_|refine et ?_|refine eu ?_|exact d'|refine d_ ?_);try(refine eI [0,1,2,3,8] fun F k=>?_;replace K:=k;clear k))|(refine ea (fun J=>?_) (fun J=>?_)<;>first|(exfalso;simp(disch:=omega) [H] at J;done)|(exfalso;simp at J;omega)|simp at J)|((first|refine bU ?_|refine c9 ?_);simp(disch:=omega) [H,K,e])|exact trivial)
   all_goals obtain⟨f0,f1,f2,f3,f8⟩:=K
 · have aq:¬ad z.natAbs= []:=fun h=>aD (by have:=jN.1 h;omega)
   have lD:¬(ad z.natAbs).length=0:=fun h=>aq (List.length_eq_zero_iff.1 h)
   by_cases U:z<0
   · have e:h1 z= -1:=by simp[h1,aD,U]
     have ar:bc z=true:=by simp[bc,U]
     refine aL [0,1,2,3,8] fun F K=>?_
     obtain⟨f0,f1,f2,f3,f8⟩:=K
     have H:=bt aq lD ar
     have K:=bw f0 f1 f2 f3 f8;clear f0 f1 f2 f3 f8
     repeat' (first|refine dY ?_|refine dZ ?_|((first|refine er ?_|refine et ?_|refine eu ?_|exact d'|refine d_ ?_);try(refine eI [0,1,2,3,8] fun F k=>?_;replace K:=k;clear k))|(refine ea (fun J=>?_) (fun J=>?_)<;>first|(exfalso;simp(disch:=omega) [H] at J;done)|(exfalso;simp at J;omega)|simp at J)|((first|refine bU ?_|refine c9 ?_);simp(disch:=omega) [H,K,e])|exact trivial)
     all_goals obtain⟨f0,f1,f2,f3,f8⟩:=K
   · have e:h1 z=1:=by simp[h1,aD,U]
     have ar:bc z=false:=by simp[bc,U]
     refine aL [0,1,2,3,8] fun F K=>?_
     obtain⟨f0,f1,f2,f3,f8⟩:=K
     have H:=bt aq lD ar
     have K:=bw f0 f1 f2 f3 f8;clear f0 f1 f2 f3 f8
     repeat' (first|refine dY ?_|refine dZ ?_|((first|refine er ?_|refine et ?_|refine eu ?_|exact d'|refine d_ ?_);try(refine eI [0,1,2,3,8] fun F k=>?_;replace K:=k;clear k))|(refine ea (fun J=>?_) (fun J=>?_)<;>first|(exfalso;simp(disch:=omega) [H] at J;done)|(exfalso;simp at J;omega)|simp at J)|((first|refine bU ?_|refine c9 ?_);simp(disch:=omega) [H,K,e])|exact trivial)
     all_goals obtain⟨f0,f1,f2,f3,f8⟩:=K
noncomputable def ue:List I->Option I:=bl (fun z:Int=>aY z<=100000000) (fun z=>[ax z]) (fun z=>ax (-z))
theorem Uw (z:Int) (h:aY z<=100000000) {args:List I} (he:args.map I.loose= [ax z]):ue args=some (ax (-z)):=bC (fun z w h=>by simp only[List.cons.injEq,I.int.injEq,I.bool.injEq,I.sl.injEq,cD,cB,cO,cP,cK,bO,b2,cJ,bD,true_and,and_true] at h;simp[h]) z h he
theorem KD:aP Tryz.prog G 90 ue:=by
 refine bB mixed wo Ii fun z ar=>?_
 simp only[aY] at ar
 have t:=m' (b:=!bc z) (n:=z.natAbs) (by omega)
 rw[show cC (!bc z) z.natAbs= -z by simp only[cC,bc,Bool.not_eq_true',decide_eq_false_iff_not];split<;>omega] at t
 unfold i90
 generalize a4:bc z=s at*
 generalize ix:z.natAbs=n at*
 generalize -z=w at*
 refine aL [0,1,2] fun F K=>?_
 obtain⟨f0,f1,f2⟩:=K
 have H:=bt a4 ix t
 have K:=bt f0 f1 f2;clear f0 f1 f2
 exact a3 [0,1,2]
def lk (a b:Int):Int:=if a<b then -1 else if b<a then 1 else 0
noncomputable def pC:List I->Option I:=bl (fun z:Int × Int=>aY z.1<=10000000/\aY z.2<=10000000) (fun z=>[ax z.1,ax z.2]) (fun z=>ax (z.1+z.2))
theorem Da (z:Int × Int) (h:aY z.1<=10000000/\aY z.2<=10000000) {args:List I} (he:args.map I.loose= [ax z.1,ax z.2]):pC args=some (ax (z.1+z.2)):=bC (fun z w h=>by simp only[List.cons.injEq,I.int.injEq,I.bool.injEq,I.sl.injEq,cD,cB,cO,cP,cK,bO,b2,cJ,bD,true_and,and_true] at h;simp[h]) z h he
theorem Db:aP Tryz.prog G 119 pC:=by
 refine bB mixed wo Ix fun z ar=>?_
 obtain⟨a,b⟩:=z
 obtain⟨aK,aa⟩:=ar
 simp only[aY] at aK aa|-
 have Ux:((-1:Int)<Z 0)=True:=eq_true (by decide)
 unfold i119
 by_cases au:bc a=bc b
 · have t1:=mK (a:=a.natAbs) (b:=b.natAbs) (e:=false) (e':=false) (by omega) (by omega)
   have aw:=j' a.natAbs b.natAbs
   have t2:=m' (b:=bc a) (n:=a.natAbs+b.natAbs) (by omega)
   rw[Ks au] at t2
   generalize a4:bc a=tw at*
   generalize bj:bc b=tx at*
   subst au
   refine aL [0,1,2,3,4,5,11,25] fun F K=>?_
   obtain⟨f0,f1,f2,f3,f4,f5,f11,f25⟩:=K
   have H:=b4 a4 bj t1 t2
   have K:=e3 f0 f1 f2 f3 f4 f5 f11 f25;clear f0 f1 f2 f3 f4 f5 f11 f25
   exact a3 [0,1,2,3,4,5,11,25]
 · have lv:(bc a == bc b)=false:=by simpa using au
   have t0:=wa (a:=a.natAbs) (b:=b.natAbs) (e:=false) (e':=false) (by omega) (by omega)
   by_cases bq:a.natAbs<b.natAbs
   · have J:dI a.natAbs b.natAbs= -1:=by simp[dI,bq]
     rw[J] at t0
     have t2:=wj (a:=b.natAbs) (b:=a.natAbs) (e:=false) (e':=false) (by omega) (by omega)
     rw[if_neg (by omega)] at t2
     have t3:=m' (b:=bc b) (n:=b.natAbs - a.natAbs) (Nat.le_trans (h_ (Nat.sub_le _ _)) (by omega))
     rw[Ku au bq] at t3
     generalize a4:bc a=tw at*
     generalize bj:bc b=tx at*
     refine aL [0,1,2,3,4,5,11,25] fun F K=>?_
     obtain⟨f0,f1,f2,f3,f4,f5,f11,f25⟩:=K
     have H:=dq a4 bj lv Ux t0 t2 t3
     have K:=e3 f0 f1 f2 f3 f4 f5 f11 f25;clear f0 f1 f2 f3 f4 f5 f11 f25
     exact a3 [0,1,2,3,4,5,11,25]
   · have ml:(dI a.natAbs b.natAbs<Z 0)=False:=eq_false (by simp only[dI];rw[if_neg bq];split<;>decide)
     have t2:=wj (a:=a.natAbs) (b:=b.natAbs) (e:=false) (e':=false) (by omega) (by omega)
     rw[if_neg bq] at t2
     have t3:=m' (b:=bc a) (n:=a.natAbs - b.natAbs) (Nat.le_trans (h_ (Nat.sub_le _ _)) (by omega))
     rw[Kt au bq] at t3
     generalize dI a.natAbs b.natAbs=yL at*
     generalize a4:bc a=tw at*
     generalize bj:bc b=tx at*
     refine aL [0,1,2,3,4,5,11,25] fun F K=>?_
     obtain⟨f0,f1,f2,f3,f4,f5,f11,f25⟩:=K
     have H:=dq a4 bj lv ml t0 t2 t3
     have K:=e3 f0 f1 f2 f3 f4 f5 f11 f25;clear f0 f1 f2 f3 f4 f5 f11 f25
     exact a3 [0,1,2,3,4,5,11,25]
noncomputable def Dc:FuncId->Option (List I->Option I):=cA [(119,pC),(90,ue)]
theorem Uy:∀f T,Dc f=some T->aP Tryz.prog G f T:=cH (by simp only[List.forall_mem_cons];exact ⟨Db,KD,fun _ h=>absurd h (by simp)⟩)
theorem Uz:Dc 119=some pC:=rfl
theorem UA:Dc 90=some ue:=rfl
attribute [local simp] Uz UA
noncomputable def sv:List I->Option I:=bl (fun z:Int × Int=>aY z.1<=10000000/\aY z.2<=10000000) (fun z=>[ax z.1,ax z.2]) (fun z=>ax (z.1 - z.2))
theorem Dd (z:Int × Int) (h:aY z.1<=10000000/\aY z.2<=10000000) {args:List I} (he:args.map I.loose= [ax z.1,ax z.2]):sv args=some (ax (z.1 - z.2)):=bC (fun z w h=>by simp only[List.cons.injEq,I.int.injEq,I.bool.injEq,I.sl.injEq,cD,cB,cO,cP,cK,bO,b2,cJ,bD,true_and,and_true] at h;simp[h]) z h he
theorem KE:aP Tryz.prog G 143 sv:=by
 refine bB mixed Uy ID fun z ar=>?_
 obtain⟨a,b⟩:=z
 obtain⟨aK,aa⟩:=ar
 simp only at aK aa|-
 have t1:=Uw b (by omega) (args:=[ax b]) (by simp)
 have t2:=Da (a,-b) ⟨aK,by rw[C7];exact aa⟩ (args:=[ax a,ax (-b)]) (by simp)
 rw[<-Int.sub_eq_add_neg] at t2
 unfold i143
 generalize -b=c at*
 generalize a - b=d at*
 refine aL [0,1,2,3,4] fun F K=>?_
 obtain⟨f0,f1,f2,f3,f4⟩:=K
 have H:=bA t1 t2
 have K:=bw f0 f1 f2 f3 f4;clear f0 f1 f2 f3 f4
 exact a3 [0,1,2,3,4]
end
section
attribute [local irreducible] a7
attribute [local simp] c5 cZ ck yu yv yw
theorem KF {x y:Nat} (ae:x<4294967296) (aO:y<4294967296):x*y<=18446744065119617025:=Nat.mul_le_mul (show x<=4294967295 by omega) (show y<=4294967295 by omega)
theorem KG {V iV P fc B De x r q qN fT c R u:Nat} (U:iV+P*fc*De=V+P*fc*r) (ae:x=qN*fT+De+c) (a_:x=B*q+r) (h:V+P*fc*c=R+P*(qN*u)):
 iV+P*fc*B*q=R+P*(qN*(u+fc*fT)):=by
 have al:P*fc*x=P*fc*(qN*fT)+P*fc*De+P*fc*c:=by rw[ae,Nat.mul_add,Nat.mul_add]
 have ao:P*fc*x=P*fc*B*q+P*fc*r:=by rw[a_,Nat.mul_add,Nat.mul_assoc (P*fc)]
 have aV:P*(qN*(u+fc*fT))=P*(qN*u)+P*fc*(qN*fT):=by
  rw[Nat.mul_add,Nat.mul_add]
  congr 1
  rw[Nat.mul_assoc P,Nat.mul_left_comm qN]
 omega
noncomputable def yX:List I->Option I:=bl (fun z:Nat × Nat=>(ad z.1).length<=100000000/\(ad z.2).length<=100000000) (fun z=>[ai z.1,ai z.2]) (fun z=>ai (z.1*z.2))
theorem UB {a b:Nat} {e e':Bool} (aK:(ad a).length<=100000000) (aa:(ad b).length<=100000000):
 yX [.sl ((ad a).map fun n=> .int .u32 (Z n)) e,.sl ((ad b).map fun n=> .int .u32 (Z n)) e']=some (ai (a*b)):=
 bC (fun z w h=>by simp[bO,b2] at h;simp[h]) (a,b) ⟨aK,aa⟩ (by simp)
structure yY (a b:Nat) (i:Nat) (o:List Nat) (s:aI) (q:Nat):Prop where
 len:o.length=(ad a).length+(ad b).length
 mi:Small o
 ar:∀j,i+(ad b).length<=j->aB o j=0
 f0:s.F 0=ai a
 f1:s.F 1=ai b
 f5:s.F 5= .ref q 0 ((ad a).length+(ad b).length) ((ad a).length+(ad b).length)
 f6:s.F 6=aR i
 cells:s.h.cells q=some (o.map fun n=> .int .u32 (Z n))
 bR:s.h.shut q=false
 c6:q<s.h.next
theorem UC:aP Tryz.prog G 242 yX:=by
 refine bB mixed CF Sg fun z ar=>?_
 obtain⟨a,b⟩:=z
 obtain⟨bF,a'⟩:=ar
 simp only at bF a'|-
 have aK:=dB a
 have aa:=dB b
 obtain⟨A,a4⟩:∃A,A=(ad a).length:=⟨_,rfl⟩
 obtain⟨B,bj⟩:∃B,B=(ad b).length:=⟨_,rfl⟩
 have Df:a<ah A:=ct.1 (by omega)
 have Dg:b<ah B:=ct.1 (by omega)
 unfold i242
 refine a8 (bf bp ?_)
 simp[aD]
 refine a8 (bf bp ?_)
 simp[<-a4,<-bj,dc (show A+B<9223372036854775808 by omega),show Z (A+B)*4<=140737488355328 by simp only[Z];omega]
 refine a8 (a8 (bf bp ?_))
 simp
 refine ld (id:=0) (fun m s=>∃i o q,m=A - i/\i<=A/\val o=a%ah i*b/\yY a b i o s q) (fun s=>∃o q,val o=a*b/\yY a b A o s q) (fun _=>False) A ?_ ?_ ?_ (fun _ h=>h.elim)
 · refine⟨0,List.replicate (A+B) 0,1+5,by omega,by omega,by simp[r_,fp,Nat.mod_one],⟨by simp[<-a4,<-bj],py _,fun j _=>v7 _ _,by simp,by simp,by simp[<-a4,<-bj],by simp,by simp,by simp,by simp⟩⟩
 · rintro m s ⟨i,o,q,rfl,ab,av,ak⟩
   refine a8 (a8 (bf bp ?_))
   simp[ak.f0,ak.f6,<-a4]
   refine fI _ rfl (fun J=>?_) (fun J=>?_)
   · have k7:i<A:=by simpa using J
     have ae:=aK.aB i
     have mM:=(j_ (show i<(ad a).length by omega)).symm
     have uf:=ir a i
     refine iC ?_
     simp
     refine a8 (jX (a8 (bf bp ?_)))
     simp
     refine a8 (a8 (bf bp ?_))
     simp
     generalize iP:aB (ad a) i=x at*
     refine ld (id:=2) (fun m s=>∃k c o,m=B - k/\k<=B/\c<4294967296/\val o+ah i*ah k*c=a%ah i*b+ah i*(x*(b%ah k))/\yY a b i o s q/\s.F 7=fb c/\s.F 8=aR k)
      (fun s=>∃c o,c<4294967296/\val o+ah i*ah B*c=a%ah i*b+ah i*(x*b)/\yY a b i o s q/\s.F 7=fb c) (fun _=>False) B ?_ ?_ ?_ (fun _ h=>h.elim)
     · refine⟨0,0,o,by omega,by omega,by omega,by simp[av,fp,Nat.mod_one],⟨ak.len,ak.mi,ak.ar,by simp[ak.f0],by simp[ak.f1],by simp[ak.f5],by simp[ak.f6],by simp[ak.cells],by simp[ak.bR],by have:=ak.c6;simp;omega⟩,by simp,by simp⟩
     · rintro m s ⟨k,c,o,rfl,ag,J,av,ak,f7,f8⟩
       refine a8 (a8 (bf bp ?_))
       simp[ak.f1,f8,<-bj]
       refine fI _ rfl (fun jD=>?_) (fun jD=>?_)
       · have oH:k<B:=by simpa using jD
         have aO:=aa.aB k
         have oI:=(j_ (show k<(ad b).length by omega)).symm
         have iw:=ir b k
         have ay:=ak.mi.aB (i+k)
         have iF:=ak.len
         have go:=(j_ (show i+k<o.length by omega)).symm
         have pz:=ak.c6
         generalize jC:aB (ad b) k=y at*
         generalize mN:aB o (i+k)=z at*
         have m1:=KF ae aO
         have ug:x*y+z+c<18446744073709551616:=by omega
         have uh:x*y+z<18446744073709551616:=by omega
         have lM:i+k<A+B:=by omega
         have f0:=ak.f0
         have f1:=ak.f1
         have f5:=ak.f5
         have f6:=ak.f6
         have dJ:=ak.cells
         have fC:=ak.bR
         have kI:A+B<=o.length:=by omega
         have K:=dW f0 f1 f5 f6 f7 f8;clear f0 f1 f5 f6 f7 f8
         refine bL [0,1,5,6,7,8,9] fun F k=>?_;clear K
         obtain⟨f0,f1,f5,f6,f7,f8,f9⟩:=k
         have mO:o≠ []:=fun h=>by rw[h] at kI;simp at kI;omega
         have mP:0<o.length:=by omega
         repeat' (first
          | refine a8 ?_
          | ((fail_if_success (refine yd ?_));(fail_if_success (refine ye ?_));refine jX ?_)
          | ((first|(refine bf bp ?_;simp(disch:=omega) [dJ,fC,mM,oI,go,iP,jC,mN,ug,uh,lM,kI,sizedB,mO,mP,<-a4,<-bj,f0,f1,f5,f6,f7,f8,f9];(try(refine⟨by first|decide|rfl,?_⟩)))|(refine iC ?_;simp(disch:=omega) [dJ,fC,mM,oI,go,iP,jC,mN,ug,uh,lM,kI,sizedB,mO,mP,<-a4,<-bj,f0,f1,f5,f6,f7,f8,f9]));(try(refine yc [0,1,5,6,7,8,9] ?_;intro F;simp only[r3];intro jo bx ki mA na qO Dh;simp(disch:=omega) [dJ,fC,mM,oI,go,iP,jC,mN,ug,uh,lM,kI,sizedB,mO,mP,<-a4,<-bj,f0,f1,f5,f6,f7,f8,f9] at jo bx ki mA na qO Dh;clear f0 f1 f5 f6 f7 f8 f9;have f0:=jo;have f1:=bx;have f5:=ki;have f6:=mA;have f7:=na;have f8:=qO;have f9:=Dh;clear jo bx ki mA na qO Dh)))
          | (refine fI _ (by simp(disch:=omega) [dJ,fC,mM,oI,go,iP,jC,mN,ug,uh,lM,kI,sizedB,mO,mP,<-a4,<-bj,f0,f1,f5,f6,f7,f8,f9];rfl) (fun J=>?_) (fun J=>?_)<;>first|(exfalso;simp(disch:=omega) [dJ,fC,mM,oI,go,iP,jC,mN,ug,uh,lM,kI,sizedB,mO,mP,<-a4,<-bj] at J;done)|(exfalso;simp at J;omega)|(simp at J))
          | ((first|refine bU ?_|refine c9 ?_);simp(disch:=omega) [dJ,fC,mM,oI,go,iP,jC,mN,ug,uh,lM,kI,sizedB,mO,mP,<-a4,<-bj,f0,f1,f5,f6,f7,f8,f9]))
         have v9:=map_set o (i+k) ((x*y+z+c)%4294967296)
         have iu:=mI ((x*y+z+c)%4294967296) (show i+k<o.length by omega)
         rw[mN,iE] at iu
         have Di:=KG (B:=4294967296) (q:=(x*y+z+c)/4294967296) iu rfl (Nat.div_add_mod _ _).symm (show val o+ah i*ah k*c=a%ah i*b+ah i*(x*(b%ah k)) from av)
         refine⟨B -(k+1),by omega,k+1,rfl,by omega,(x*y+z+c)/4294967296,by omega,o.set (i+k) ((x*y+z+c)%4294967296),?_,⟨by simp only[List.length_set];exact ak.len,mJ ak.mi (Nat.mod_lt _ (by decide)),fun j aA=>?_,by simp[f0],by simp[f1],by simp[f5,<-a4,<-bj],by simp[f6],by simp only[an,if_true];exact congrArg some v9,by simp[fC],by simp;omega⟩,rfl,rfl⟩
         · rw[lX,dR,<-iw,<-Nat.mul_assoc]
           exact Di
         · rw[m9 _ _ (by omega),if_neg (by omega)]
           exact ak.ar j aA
       · have Dj:k=B:=by simp at jD;omega
         subst Dj
         refine c9 ?_
         rw[Nat.mod_eq_of_lt Dg] at av
         exact ⟨rfl,c,J,o,av,⟨ak.len,ak.mi,ak.ar,by simp[ak.f0],by simp[ak.f1],by simp[ak.f5],by simp[ak.f6],by simp[ak.cells],by simp[ak.bR],by have:=ak.c6;simp;omega⟩,by simp[f7]⟩
     · rintro s ⟨c,o,J,av,ak,f7⟩
       have f0:=ak.f0
       have f1:=ak.f1
       have f5:=ak.f5
       have f6:=ak.f6
       have dJ:=ak.cells
       have fC:=ak.bR
       have iF:=ak.len
       have pz:=ak.c6
       have kI:A+B<=o.length:=by omega
       have mO:o≠ []:=fun h=>by rw[h] at kI;simp at kI;omega
       have mP:0<o.length:=by omega
       have pD:i+B<A+B:=by omega
       have K:=bw f0 f1 f5 f6 f7;clear f0 f1 f5 f6 f7
       refine bL [0,1,5,6,7] fun F k=>?_;clear K
       obtain⟨f0,f1,f5,f6,f7⟩:=k
       repeat' (first
        | refine a8 ?_
        | ((fail_if_success (refine yd ?_));(fail_if_success (refine ye ?_));refine jX ?_)
        | ((first|(refine bf bp ?_;simp(disch:=omega) [dJ,fC,pD,kI,sizedB,mO,mP,<-a4,<-bj,f0,f1,f5,f6,f7];(try(refine⟨by first|decide|rfl,?_⟩)))|(refine iC ?_;simp(disch:=omega) [dJ,fC,pD,kI,sizedB,mO,mP,<-a4,<-bj,f0,f1,f5,f6,f7]));(try(refine yc [0,1,5,6,7] ?_;intro F;simp only[r3];intro jo bx ki mA na;simp(disch:=omega) [dJ,fC,pD,kI,sizedB,mO,mP,<-a4,<-bj,f0,f1,f5,f6,f7] at jo bx ki mA na;clear f0 f1 f5 f6 f7;have f0:=jo;have f1:=bx;have f5:=ki;have f6:=mA;have f7:=na;clear jo bx ki mA na)))
        | (refine fI _ (by simp(disch:=omega) [dJ,fC,pD,kI,sizedB,mO,mP,<-a4,<-bj,f0,f1,f5,f6,f7];rfl) (fun J=>?_) (fun J=>?_)<;>first|(exfalso;simp(disch:=omega) [dJ,fC,pD,kI,sizedB,mO,mP,<-a4,<-bj] at J;done)|(exfalso;simp at J;omega)|(simp at J))
        | ((first|refine bU ?_|refine c9 ?_);simp(disch:=omega) [dJ,fC,pD,kI,sizedB,mO,mP,<-a4,<-bj,f0,f1,f5,f6,f7]))
       have v9:=map_set o (i+B) c
       have iu:=mI c (show i+B<o.length by omega)
       rw[ak.ar (i+B) (by omega),Nat.mul_zero,Nat.add_zero,iE] at iu
       refine⟨A -(i+1),by omega,i+1,rfl,by omega,o.set (i+B) c,?_,q,⟨by simp only[List.length_set];exact ak.len,mJ ak.mi J,fun j aA=>?_,by simp[f0],by simp[f1],by simp[f5,<-a4,<-bj],by simp,by simp only[an,if_true];exact congrArg some v9,by simp[fC],by simp;omega⟩⟩
       · rw[iu,lX,<-uf,Nat.add_mul,av,Nat.mul_assoc]
       · rw[m9 _ _ (by omega),if_neg (by omega)]
         exact ak.ar j (by omega)
   · have jd:i=A:=by simp at J;omega
     subst jd
     refine c9 ?_
     rw[Nat.mod_eq_of_lt Df] at av
     exact ⟨rfl,o,av,q,⟨ak.len,ak.mi,ak.ar,by simp[ak.f0],by simp[ak.f1],by simp[ak.f5],by simp[ak.f6],by simp[ak.cells],by simp[ak.bR],by have:=ak.c6;simp;omega⟩⟩
 · rintro s ⟨o,q,av,ak⟩
   have iF:=ak.len
   have f5:=ak.f5
   have dJ:=ak.cells
   have cT:=px (e:=false) ak.mi (show o.length<=1073741824 by omega)
   rw[av] at cT
   have iG:List.take (A+B) (o.map fun n=>I.int .u32 (Z n))=o.map fun n=>I.int .u32 (Z n):=List.take_of_length_le (by simp;omega)
   have kI:A+B<=o.length:=by omega
   have K:=f5;clear f5
   refine bL [4,5] fun F k=>?_;clear K
   obtain⟨f4,f5⟩:=k
   have H:=dW dJ cT iG kI a4.symm bj.symm
   have K:=bA f4 f5;clear f4 f5
   exact a3 [4,5]
noncomputable def KH:FuncId->Option (List I->Option I):=cA [(242,yX)]
theorem UD:∀f T,KH f=some T->aP Tryz.prog G f T:=cH (by simp only[List.forall_mem_cons];exact ⟨UC,fun _ h=>absurd h (by simp)⟩)
theorem UE:KH 242=some yX:=rfl
attribute [local simp] UE
noncomputable def yZ:List I->Option I:=bl (fun z:Nat × Nat=>(ad z.1).length<=100000000/\(ad z.2).length<=100000000) (fun z=>[ai z.1,ai z.2]) (fun z=>ai (z.1*z.2))
theorem UF {a b:Nat} {e e':Bool} (aK:(ad a).length<=100000000) (aa:(ad b).length<=100000000):
 yZ [.sl ((ad a).map fun n=> .int .u32 (Z n)) e,.sl ((ad b).map fun n=> .int .u32 (Z n)) e']=some (ai (a*b)):=
 bC (fun z w h=>by simp[bO,b2] at h;simp[h]) (a,b) ⟨aK,aa⟩ (by simp)
theorem UG:aP Tryz.prog G 181 yZ:=by
 refine bB mixed UD R' fun z ar=>?_
 obtain⟨a,b⟩:=z
 have t:=UB (e:=false) (e':=false) ar.1 ar.2
 unfold i181
 refine aL [0,1,4] fun F K=>?_
 obtain⟨f0,f1,f4⟩:=K
 have H:=t
 have K:=bt f0 f1 f4;clear f0 f1 f4
 exact a3 [0,1,4]
end
section
attribute [local irreducible] a7
attribute [local simp] c5 cZ ck
def a' (o:List Nat):List I:=o.map fun n=> .int .u32 (Z n)
theorem j0 {o:List Nat} {i:Nat} (h:i<o.length):(a' o)[i]? =some (.int .u32 (Z (aB o i))):=qD h
theorem oJ (o:List Nat) (i v:Nat):(a' o).set i (.int .u32 (Z v))=a' (o.set i v):=map_set o i v
theorem pE (o:List Nat):(a' o).length=o.length:=by simp[a']
theorem kq {o:List Nat} (h:0<o.length):sizedB 1 (some (a' o))=true:=by
 simp[sizedB,a',I.cells];exact h
theorem y2 (n:Nat):List.replicate n (I.int .u32 (Z 0))=a' (List.replicate n 0):=SX n
theorem y3 (o:List Nat):(a' o).all I.dh=true:=v3 o
theorem y4 {o:List Nat} {n:Nat} (h:o.length<=n):List.take n (a' o)=a' o:=List.take_of_length_le (by rw[pE];exact h)
structure fe (h:af) (q:Nat) (o:List Nat):Prop where
 cells:h.cells q=some (a' o)
 bR:h.shut q=false
 c6:q<h.next
theorem fe.bump {h:af} {q:Nat} {o:List Nat} (R:fe h q o) (m:Nat) (p:Nat->Option ff) (hm:h.next<=m):fe ⟨h.cells,h.shut,m,p⟩ q o:=⟨R.cells,R.bR,Nat.lt_of_lt_of_le R.c6 hm⟩
theorem fe.put {h:af} {q:Nat} {o:List Nat} (R:fe h q o) (o':List Nat) (m:Nat) (p:Nat->Option ff) (hm:h.next<=m):fe ⟨an h.cells q (some (a' o')),h.shut,m,p⟩ q o':=
 ⟨by simp only[an,if_true],R.bR,Nat.lt_of_lt_of_le R.c6 hm⟩
theorem fe.new {h:af} {q:Nat} {o:List Nat} (m:Nat) (p:Nat->Option ff) (au:h.shut q=false) (aG:q<m):fe ⟨an h.cells q (some (a' o)),h.shut,m,p⟩ q o:=
 ⟨by simp only[an,if_true],au,aG⟩
noncomputable def KI:FuncId->Option (List I->Option I):=cA [(170,kp)]
theorem UH:∀f T,KI f=some T->aP Tryz.prog G f T:=cH (by simp only[List.forall_mem_cons];exact ⟨pA,fun _ h=>absurd h (by simp)⟩)
theorem UI:KI 170=some kp:=rfl
attribute [local simp] UI
def KJ (a b A B i:Nat) (s:aI):Prop:=∃q o,o.length=A+B/\Small o/\(∀j,i+B<=j->aB o j=0)/\val o=a%ah i*b/\s.F 5= .ref q 0 (A+B) (A+B)/\fe s.h q o
def KK (a b A B i x k:Nat) (s:aI):Prop:=∃q o c,o.length=A+B/\Small o/\(∀j,i+B<=j->aB o j=0)/\c<4294967296/\val o+ah i*ah k*c=a%ah i*b+ah i*(x*(b%ah k))/\s.F 5= .ref q 0 (A+B) (A+B)/\s.F 8=fb c/\fe s.h q o
noncomputable def ui:List I->Option I:=bl (fun z:Nat × Nat=>(ad z.1).length<=100000000/\(ad z.2).length<=100000000) (fun z=>[ai z.1,ai z.2]) (fun z=>ai (z.1*z.2))
theorem KL (z:Nat × Nat) (h:(ad z.1).length<=100000000/\(ad z.2).length<=100000000) {args:List I} (he:args.map I.loose= [ai z.1,ai z.2]):ui args=some (ai (z.1*z.2)):=bC (fun z w h=>by simp only[List.cons.injEq,I.int.injEq,I.bool.injEq,I.sl.injEq,cD,cB,cO,cP,cK,bO,b2,cJ,bD,true_and,and_true] at h;simp[h]) z h he
theorem KM:aP Tryz.prog G 203 ui:=by
 refine bB mixed UH IZ fun z ar=>?_
 obtain⟨a,b⟩:=z
 obtain⟨bF,UJ⟩:=ar
 simp only at bF UJ|-
 have aK:=dB a
 have aa:=dB b
 obtain⟨A,a4⟩:∃A,A=(ad a).length:=⟨_,rfl⟩
 obtain⟨B,bj⟩:∃B,B=(ad b).length:=⟨_,rfl⟩
 have Df:a<ah A:=ct.1 (by omega)
 have Dg:b<ah B:=ct.1 (by omega)
 have hw:IntKind.i64.wrap (Z A+Z B)=Z (A+B):=dc (by omega)
 have aT:Z (A+B)*4<=140737488355328:=by simp only[Z];omega
 unfold i203
 refine aL [0,1,4,5,6,7,8,9,10,17,18,19,20,24,25,26,27] fun F K=>?_
 obtain⟨f0,f1,f4,f5,f6,f7,f8,f9,f10,f17,f18,f19,f20,f24,f25,f26,f27⟩:=K
 have H:=bw a4.symm bj.symm hw aT (@y2)
 have K:=vW f0 f1 f4 f5 f6 f7 f8 f9 f10 f17 f18 f19 f20 f24 f25 f26 f27;clear f0 f1 f4 f5 f6 f7 f8 f9 f10 f17 f18 f19 f20 f24 f25 f26 f27
 refine bH [0,1,4,5,6,7,8,9,10,17,18,19,20,24,25,26,27] fun F k=>?_;clear K H
 obtain⟨f0,f1,f4,f5,f6,f7,f8,f9,f10,f17,f18,f19,f20,f24,f25,f26,f27⟩:=k
 refine iz A (fun i s=>KJ a b A B i s/\s.F 19=aR i) (KJ a b A B A) (fun _=>False) ?_ ?_ ?_ (fun _ _ h=>h.elim)
 · exact ⟨⟨_,List.replicate (A+B) 0,by simp,py _,fun j _=>v7 _ _,by simp[r_,fp,Nat.mod_one],f5,⟨by simp[an],by simp,by simp⟩⟩,f19⟩
 · rintro i s ab ag ⟨⟨q,o,iF,fq,ar,av,fr,V⟩,UK⟩
   replace f0:=(ag 0 rfl).trans f0;replace f1:=(ag 1 rfl).trans f1;replace f17:=(ag 17 rfl).trans f17;replace f18:=(ag 18 rfl).trans f18
   clear f5 f19
   have f5:=fr
   have f19:=UK
   have K:=dW f0 f1 f5 f17 f18 f19;clear f0 f1 f5 f17 f18 f19
   refine bL [0,1,5,6,7,8,17,18,19,20,24,25,26] fun F k=>?_;clear K
   obtain⟨f0,f1,f5,f6,f7,f8,f17,f18,f19,f20,f24,f25,f26⟩:=k
   by_cases k7:i<A
   · have ae:=aK.aB i
     have mM:=(j_ (show i<(ad a).length by omega)).symm
     have uf:=ir a i
     generalize iP:aB (ad a) i=x at*
     have H:=bw k7 mM iP a4.symm bj.symm
     have K:=km f0 f1 f5 f6 f7 f8 f17 f18 f19 f20 f24 f25 f26;clear f0 f1 f5 f6 f7 f8 f17 f18 f19 f20 f24 f25 f26
     refine bH [0,1,5,6,7,8,17,18,19,20,24,25,26] fun F k=>?_;clear K H
     obtain⟨f0,f1,f5,f6,f7,f8,f17,f18,f19,f20,f24,f25,f26⟩:=k
     refine iz B (fun k s=>KK a b A B i x k s/\s.F 26=aR k) (KK a b A B i x B) (fun _=>False) ?_ ?_ ?_ (fun _ _ h=>h.elim)
     · exact ⟨⟨q,o,0,iF,fq,ar,by omega,by simp[av,fp,Nat.mod_one],f5,f8,V.bump _ _ (by omega)⟩,f26⟩
     · rintro k s jn ag ⟨⟨q,o,c,iF,fq,ar,mn,av,fr,eJ,V⟩,wk⟩
       replace f0:=(ag 0 rfl).trans f0;replace f1:=(ag 1 rfl).trans f1;replace f6:=(ag 6 rfl).trans f6;replace f7:=(ag 7 rfl).trans f7;replace f17:=(ag 17 rfl).trans f17;replace f18:=(ag 18 rfl).trans f18;replace f19:=(ag 19 rfl).trans f19;replace f24:=(ag 24 rfl).trans f24;replace f25:=(ag 25 rfl).trans f25
       clear f5 f8 f26
       have f5:=fr
       have f8:=eJ
       have f26:=wk
       have K:=jK f0 f1 f5 f6 f7 f8 f17 f18 f19 f24 f25 f26;clear f0 f1 f5 f6 f7 f8 f17 f18 f19 f24 f25 f26
       refine bL [0,1,5,6,7,8,9,10,17,18,19,24,25,26,27] fun F k=>?_;clear K
       obtain⟨f0,f1,f5,f6,f7,f8,f9,f10,f17,f18,f19,f24,f25,f26,f27⟩:=k
       by_cases oH:k<B
       · have aO:=aa.aB k
         have oI:=(j_ (show k<(ad b).length by omega)).symm
         have iw:=ir b k
         have ay:=fq.aB (i+k)
         have go:=j0 (show i+k<o.length by omega)
         generalize jC:aB (ad b) k=y at*
         generalize mN:aB o (i+k)=z at*
         have m1:=KF ae aO
         have n':x*y+z<18446744073709551616:=by omega
         have BL:c+(x*y+z)<18446744073709551616:=by omega
         have lM:i+k<A+B:=by omega
         have sz:=kq (show 0<o.length by omega)
         have st:=oJ o (i+k) ((c+(x*y+z))%4294967296)
         have dJ:=V.cells
         have fC:=V.bR
         have H:=km oH dJ fC oI go jC n' BL lM sz st a4.symm bj.symm
         have K:=vV f0 f1 f5 f6 f7 f8 f9 f10 f17 f18 f19 f24 f25 f26 f27;clear f0 f1 f5 f6 f7 f8 f9 f10 f17 f18 f19 f24 f25 f26 f27
         refine bH [0,1,5,6,7,8,9,10,17,18,19,24,25,26,27] fun F k=>?_;clear K H
         obtain⟨f0,f1,f5,f6,f7,f8,f9,f10,f17,f18,f19,f24,f25,f26,f27⟩:=k
         have iu:=mI ((c+(x*y+z))%4294967296) (show i+k<o.length by omega)
         rw[mN,iE] at iu
         have Di:=KG (B:=4294967296) (q:=(c+(x*y+z))/4294967296) iu (show c+(x*y+z)=x*y+z+c by omega) (Nat.div_add_mod _ _).symm (show val o+ah i*ah k*c=a%ah i*b+ah i*(x*(b%ah k)) from av)
         refine⟨q,o.set (i+k) ((c+(x*y+z))%4294967296),(c+(x*y+z))/4294967296,by rw[List.length_set];exact iF,mJ fq (Nat.mod_lt _ (by decide)),fun j aA=>?_,by omega,?_,f5,f8,V.put _ _ _ (by omega)⟩
         · rw[m9 _ _ (by omega),if_neg (by omega)]
           exact ar j aA
         · rw[lX,dR,<-iw,<-Nat.mul_assoc]
           exact Di
       · have Dj:k=B:=by omega
         subst Dj
         have H:=oH
         have K:=vV f0 f1 f5 f6 f7 f8 f9 f10 f17 f18 f19 f24 f25 f26 f27;clear f0 f1 f5 f6 f7 f8 f9 f10 f17 f18 f19 f24 f25 f26 f27
         refine bH [0,1,5,6,7,8,9,10,17,18,19,24,25,26,27] fun F k=>?_;clear K H
         obtain⟨f0,f1,f5,f6,f7,f8,f9,f10,f17,f18,f19,f24,f25,f26,f27⟩:=k
         exact ⟨q,o,c,iF,fq,ar,mn,av,f5,f8,V.bump _ _ (by omega)⟩
     · rintro s ag ⟨q,o,c,iF,fq,ar,mn,av,fr,eJ,V⟩
       rw[Nat.mod_eq_of_lt Dg] at av
       replace f0:=(ag 0 rfl).trans f0;replace f1:=(ag 1 rfl).trans f1;replace f6:=(ag 6 rfl).trans f6;replace f7:=(ag 7 rfl).trans f7;replace f17:=(ag 17 rfl).trans f17;replace f18:=(ag 18 rfl).trans f18;replace f19:=(ag 19 rfl).trans f19;replace f24:=(ag 24 rfl).trans f24;replace f25:=(ag 25 rfl).trans f25
       clear f5 f8 f26
       have f5:=fr
       have f8:=eJ
       have K:=h7 f0 f1 f5 f6 f7 f8 f17 f18 f19;clear f0 f1 f5 f6 f7 f8 f17 f18 f19
       refine bL [0,1,5,6,7,8,17,18,19] fun F k=>?_;clear K
       obtain⟨f0,f1,f5,f6,f7,f8,f17,f18,f19⟩:=k
       have pD:i+B<A+B:=by omega
       have sz:=kq (show 0<o.length by omega)
       have st:=oJ o (i+B) c
       have ia:=j0 (show i+B<o.length by omega)
       have dJ:=V.cells
       have fC:=V.bR
       have H:=h7 dJ fC pD sz st ia mn a4.symm bj.symm
       have K:=h7 f0 f1 f5 f6 f7 f8 f17 f18 f19;clear f0 f1 f5 f6 f7 f8 f17 f18 f19
       refine bH [0,1,5,6,7,8,17,18,19] fun F k=>?_;clear K H
       obtain⟨f0,f1,f5,f6,f7,f8,f17,f18,f19⟩:=k
       have iu:=mI c (show i+B<o.length by omega)
       rw[ar (i+B) (by omega),Nat.mul_zero,Nat.add_zero,iE] at iu
       refine⟨q,o.set (i+B) c,by rw[List.length_set];exact iF,mJ fq mn,fun j aA=>?_,?_,f5,V.put _ _ _ (by omega)⟩
       · rw[m9 _ _ (by omega),if_neg (by omega)]
         exact ar j (by omega)
       · rw[iu,lX,<-uf,Nat.add_mul,av,Nat.mul_assoc]
   · have jd:i=A:=by omega
     subst jd
     have H:=k7
     have K:=km f0 f1 f5 f6 f7 f8 f17 f18 f19 f20 f24 f25 f26;clear f0 f1 f5 f6 f7 f8 f17 f18 f19 f20 f24 f25 f26
     refine bH [0,1,5,6,7,8,17,18,19,20,24,25,26] fun F k=>?_;clear K H
     obtain⟨f0,f1,f5,f6,f7,f8,f17,f18,f19,f20,f24,f25,f26⟩:=k
     exact ⟨q,o,iF,fq,ar,av,f5,V.bump _ _ (by omega)⟩
 · rintro s ag ⟨q,o,iF,fq,ar,av,fr,V⟩
   rw[Nat.mod_eq_of_lt Df] at av
   clear f5 f19
   have f5:=fr
   have dJ:=V.cells
   have cT:=oE (e:=false) fq (show o.length<=1073741824 by omega)
   rw[av] at cT
   have iG:=y4 (show o.length<=A+B by omega)
   have nx:=y3 o
   have aw:=pE o
   have hle:A+B<=(a' o).length:=by omega
   have K:=f5;clear f5
   refine bL [4,5] fun F k=>?_;clear K
   obtain⟨f4,f5⟩:=k
   rw[show (o.map fun n=>I.int .u32 (Z n))=a' o from rfl] at cT
   have H:=bw dJ cT iG nx hle
   have K:=bA f4 f5;clear f4 f5
   exact a3 [4,5]
end
section
attribute [local irreducible] a7
attribute [local simp] c5 cZ ck
noncomputable def Dk:FuncId->Option (List I->Option I):=cA [(170,kp),(185,oG)]
theorem KN:∀f T,Dk f=some T->aP Tryz.prog G f T:=cH (by simp only[List.forall_mem_cons];exact ⟨pA,yK,fun _ h=>absurd h (by simp)⟩)
theorem UL:Dk 170=some kp:=rfl
theorem UM:Dk 185=some oG:=rfl
attribute [local simp] UL UM
theorem UN {a L k n:Nat} (a4:a<ah L) (ag:k<=n):a/ah (min k L)%ah (min n L - min k L)=a%ah n/ah k:=by
 by_cases U:n<=L
 · rw[Nat.min_eq_left (by omega),Nat.min_eq_left U,<-Nat.mod_mul_right_div_self,<-iE,show k+(n - k)=n by omega]
 · rw[Nat.min_eq_right (show L<=n by omega),Nat.mod_eq_of_lt (Nat.lt_of_lt_of_le a4 (lW (by omega:L<=n)))]
   by_cases h2:k<=L
   · rw[Nat.min_eq_left h2,Nat.mod_eq_of_lt]
     rw[Nat.div_lt_iff_lt_mul (ju k),<-iE,show L - k+k=L by omega]
     exact a4
   · rw[Nat.min_eq_right (by omega),Nat.sub_self,fp,Nat.mod_one,Nat.div_eq_of_lt (Nat.lt_of_lt_of_le a4 (lW (by omega)))]
noncomputable def qP:List I->Option I:=bl (fun z:Nat × Nat × Nat=>(ad z.1).length<=1000000000/\z.2.1<=z.2.2/\z.2.2<=1000000000000) (fun z=>[ai z.1,aR z.2.1,aR z.2.2]) (fun z=>ai (z.1%ah z.2.2/ah z.2.1))
theorem wq (z:Nat × Nat × Nat) (h:(ad z.1).length<=1000000000/\z.2.1<=z.2.2/\z.2.2<=1000000000000) {args:List I} (he:args.map I.loose= [ai z.1,aR z.2.1,aR z.2.2]):qP args=some (ai (z.1%ah z.2.2/ah z.2.1)):=bC (fun z w h=>by simp only[List.cons.injEq,I.int.injEq,I.bool.injEq,I.sl.injEq,cD,cB,cO,cP,cK,bO,b2,cJ,bD,true_and,and_true] at h;simp[h]) z h he
theorem KO:aP Tryz.prog G 252 qP:=by
 refine bB mixed KN I_ fun z ar=>?_
 obtain⟨a,k,n⟩:=z
 obtain⟨bF,ag,aq⟩:=ar
 simp only at bF ag aq|-
 obtain⟨L,bb⟩:∃L,L=(ad a).length:=⟨_,rfl⟩
 have a4:a<ah L:=ct.1 (by omega)
 have aK:=dB a
 have cT:=oE (e:=true) ((aK.drop (min k L)).take (min n L - min k L)) (by simp;omega)
 rw[Sw (aK.drop _),Cw aK,ck,UN a4 ag,List.map_take,List.map_drop] at cT
 have c1:=tT k L
 have en:=tT n L
 have U:min k L<=min n L:=by omega
 have h2:min n L<=L:=Nat.min_le_right _ _
 generalize a%ah n/ah k=r at*
 generalize ab:min k L=i at*
 generalize aA:min n L=j at*
 have au:((ad a).map fun n=>I.int .u32 (Z n)).all (fun e=>e.cells.length == 1)=true:=by simp[I.cells]
 unfold i252
 refine aL [0,1,2,6] fun F K=>?_
 obtain⟨f0,f1,f2,f6⟩:=K
 have H:=h7 bb.symm ab aA c1 en U h2 au cT
 have K:=b4 f0 f1 f2 f6;clear f0 f1 f2 f6
 exact a3 [0,1,2,6]
noncomputable def kJ:List I->Option I:=bl (fun z:Nat × Nat=>(ad z.1).length<=1000000000/\(ad z.2).length<=1000000000) (fun z=>[ai z.1,ai z.2]) (fun z=>ai (z.1 - z.2))
theorem Dl (z:Nat × Nat) (h:(ad z.1).length<=1000000000/\(ad z.2).length<=1000000000) {args:List I} (he:args.map I.loose= [ai z.1,ai z.2]):kJ args=some (ai (z.1 - z.2)):=bC (fun z w h=>by simp only[List.cons.injEq,I.int.injEq,I.bool.injEq,I.sl.injEq,cD,cB,cO,cP,cK,bO,b2,cJ,bD,true_and,and_true] at h;simp[h]) z h he
theorem Dm:aP Tryz.prog G 257 kJ:=by
 refine bB mixed KN Jb fun z ar=>?_
 obtain⟨a,b⟩:=z
 obtain⟨bF,a'⟩:=ar
 simp only at bF a'|-
 have t:=wj (a:=a) (b:=b) (e:=false) (e':=false) bF a'
 unfold i257
 by_cases h:a<b
 · rw[if_pos h] at t
   have dS:a - b=0:=by omega
   rw[dS]
   have dE:=eS
   refine aL [0,1,4,5] fun F K=>?_
   obtain⟨f0,f1,f4,f5⟩:=K
   have H:=t
   have K:=b4 f0 f1 f4 f5;clear f0 f1 f4 f5
   repeat' (first|refine dY ?_|refine dZ ?_|((first|refine er ?_|refine et ?_|refine eu ?_|exact d'|refine d_ ?_);try(refine eI [0,1,4,5] fun F k=>?_;replace K:=k;clear k))|(refine ea (fun J=>?_) (fun J=>?_)<;>first|(exfalso;simp(disch:=omega) [H] at J;done)|(exfalso;simp at J;omega)|simp at J)|((first|refine bU ?_|refine c9 ?_);simp(disch:=omega) [H,K,dE])|exact trivial)
   all_goals obtain⟨f0,f1,f4,f5⟩:=K
 · rw[if_neg h] at t
   generalize a - b=c at*
   refine aL [0,1,4,5] fun F K=>?_
   obtain⟨f0,f1,f4,f5⟩:=K
   have H:=t
   have K:=b4 f0 f1 f4 f5;clear f0 f1 f4 f5
   exact a3 [0,1,4,5]
theorem Dn:∀z w:Nat × Nat,(fun z:Nat × Nat=>[ai z.1,ai z.2]) z=(fun z:Nat × Nat=>[ai z.1,ai z.2]) w->(fun z:Nat × Nat=>ai (z.1*z.2)) z=(fun z:Nat × Nat=>ai (z.1*z.2)) w:=fun z w h=>by simp only at h|-;first|(simp only[List.cons.injEq,I.int.injEq,I.bool.injEq,I.sl.injEq,cD,cB,cO,cP,cK,bO,b2,cJ,bD,true_and,and_true] at h;simp[h];done)|(simp only[I.agg.injEq,List.cons.injEq,I.int.injEq,I.bool.injEq,I.sl.injEq,cD,cB,cO,cP,cK,bO,b2,cJ,bD,true_and,and_true] at h;simp[h])
noncomputable def sw:List I->Option I:=bl (fun z:Nat × Nat=>(ad z.1).length<=1000000/\(ad z.2).length<=1000000) (fun z:Nat × Nat=>[ai z.1,ai z.2]) (fun z:Nat × Nat=>ai (z.1*z.2))
theorem KP (z:Nat × Nat) (h:(ad z.1).length<=1000000/\(ad z.2).length<=1000000) {args:List I} (he:args.map I.loose= [ai z.1,ai z.2]):sw args=some (ai (z.1*z.2)):=bC Dn z h he
noncomputable def uj (N:Nat):List I->Option I:=bl (fun z:Nat × Nat=>((ad z.1).length<=1000000/\(ad z.2).length<=1000000)/\(max (ad z.1).length (ad z.2).length)<N) (fun z:Nat × Nat=>[ai z.1,ai z.2]) (fun z:Nat × Nat=>ai (z.1*z.2))
theorem Dp {N:Nat} (z:Nat × Nat) (h:((ad z.1).length<=1000000/\(ad z.2).length<=1000000)/\(max (ad z.1).length (ad z.2).length)<N) {args:List I} (he:args.map I.loose= [ai z.1,ai z.2]):uj N args=some (ai (z.1*z.2)):=bC Dn z h he
theorem UO (h:∀N,aP Tryz.prog G 202 (uj N)->aP Tryz.prog G 202 (uj (N+1))):aP Tryz.prog G 202 sw:=H6 Dn (fun z:Nat × Nat=>max (ad z.1).length (ad z.2).length) h
noncomputable def sx (N:Nat):FuncId->Option (List I->Option I):=cA [(202,uj N),(203,ui),(252,qP),(257,kJ),(174,jv),(172,lC)]
theorem UP {N:Nat} (h:aP Tryz.prog G 202 (uj N)):∀f T,sx N f=some T->aP Tryz.prog G f T:=cH (by simp only[List.forall_mem_cons];exact ⟨h,KM,KO,Dm,t',yM,fun _ h=>absurd h (by simp)⟩)
theorem UQ (N:Nat):sx N 202=some (uj N):=rfl
theorem UR (N:Nat):sx N 203=some ui:=rfl
theorem US (N:Nat):sx N 252=some qP:=rfl
theorem UT (N:Nat):sx N 257=some kJ:=rfl
theorem UU (N:Nat):sx N 174=some jv:=rfl
theorem UW (N:Nat):sx N 172=some lC:=rfl
attribute [local simp] UQ UR US UT UU UW
theorem UX {P a0 a1 b0 b1:Nat}:a0*b0+(((a0+a1)*(b0+b1) -(a0*b0+a1*b1))*P+a1*b1*(P*P))=(a0+P*a1)*(b0+P*b1):=by
 have e:(a0+a1)*(b0+b1)=(a0*b0+a1*b1)+(a0*b1+a1*b0):=by grind
 rw[e,Nat.add_sub_cancel_left];grind
theorem KQ:aP Tryz.prog G 202 sw:=by
 refine UO fun N a6=>?_
 refine bB mixed (UP a6) IY fun z ar=>?_
 obtain⟨a,b⟩:=z
 obtain⟨⟨bF,a'⟩,ix⟩:=ar
 simp only at bF a' ix|-
 obtain⟨L,bb⟩:∃L,L=(ad a).length:=⟨_,rfl⟩
 obtain⟨M,lb⟩:∃M,M=(ad b).length:=⟨_,rfl⟩
 obtain⟨n,aq⟩:∃n,n=max L M:=⟨_,rfl⟩
 have c1:=tS L M
 have en:=tT L M
 rw[<-aq] at c1
 rw[<-bb] at ix bF
 rw[<-lb] at ix a'
 have a4:a<ah n:=ct.1 (by omega)
 have bj:b<ah n:=ct.1 (by omega)
 unfold i202
 by_cases pc:min L M<4
 · have t:=KL (a,b) ⟨by simp only;omega,by simp only;omega⟩ (args:=[ai a,ai b]) (by simp)
   simp only at t
   generalize a*b=c at*
   refine aL [0,1,4,5,6,7,8,9,10,11,12,13,24] fun F K=>?_
   obtain⟨f0,f1,f4,f5,f6,f7,f8,f9,f10,f11,f12,f13,f24⟩:=K
   have H:=dW bb.symm lb.symm c1 en pc t
   have K:=km f0 f1 f4 f5 f6 f7 f8 f9 f10 f11 f12 f13 f24;clear f0 f1 f4 f5 f6 f7 f8 f9 f10 f11 f12 f13 f24
   exact a3 [0,1,4,5,6,7,8,9,10,11,12,13,24]
 · obtain⟨k,ag⟩:∃k,k=(n+1)/2:=⟨_,rfl⟩
   have oH:k<n:=by omega
   have bN:∀x,x<ah n->qP [ai x,aR 0,aR k]=some (ai (x%ah k)):=fun x ae=>by
    have:=wq (x,0,k) ⟨by simp only;have:=ct.2 ae;omega,Nat.zero_le _,by simp only;omega⟩ (args:=[ai x,aR 0,aR k]) (by simp)
    simpa[fp] using this
   have bd:∀x,x<ah n->qP [ai x,aR k,aR n]=some (ai (x/ah k)):=fun x ae=>by
    have:=wq (x,k,n) ⟨by simp only;have:=ct.2 ae;omega,by simp only;omega,by simp only;omega⟩ (args:=[ai x,aR k,aR n]) (by simp)
    simpa[Nat.mod_eq_of_lt ae] using this
   have UY:=bN a a4
   have KR:=bd a a4
   have UZ:=bN b bj
   have KS:=bd b bj
   have tG:∀x,(ad (x%ah k)).length<=k:=fun x=>ct.2 (Nat.mod_lt _ (ju k))
   have cc:∀x,x<ah n->(ad (x/ah k)).length<=n - k:=fun x ae=>ct.2 (by
    rw[Nat.div_lt_iff_lt_mul (ju k),<-iE,show n - k+k=n by omega];exact ae)
   have adr:=tG a
   have U0:=cc a a4
   have ads:=tG b
   have adt:=cc b bj
   have ie:a*b=(a%ah k+ah k*(a/ah k))*(b%ah k+ah k*(b/ah k)):=by rw[Nat.mod_add_div,Nat.mod_add_div]
   rw[ie]
   generalize a%ah k=a0 at*
   generalize a/ah k=a1 at*
   generalize b%ah k=b0 at*
   generalize b/ah k=b1 at*
   have adu:=j' a0 a1
   have adv:=j' b0 b1
   have y5:=kG a0 b0
   have adw:=kG a1 b1
   have ls:=kG (a0+a1) (b0+b1)
   have lt:=j' (a0*b0) (a1*b1)
   have lm:=h_ (Nat.sub_le ((a0+a1)*(b0+b1)) (a0*b0+a1*b1))
   have fin:=UX (P:=2^(32*k)) (a0:=a0) (a1:=a1) (b0:=b0) (b1:=b1)
   rw[<-Nat.pow_add,show 32*k+32*k=64*k by omega] at fin
   have U1:(a0+2^(32*k)*a1)*(b0+2^(32*k)*b1)=(a0+ah k*a1)*(b0+ah k*b1):=by rw[kV]
   rw[U1] at fin
   have t1:=Dp (N:=N) (a0,b0) ⟨⟨by simp only;omega,by simp only;omega⟩,by simp only;omega⟩ (args:=[ai a0,ai b0]) (by simp)
   have t2:=Dp (N:=N) (a1,b1) ⟨⟨by simp only;omega,by simp only;omega⟩,by simp only;omega⟩ (args:=[ai a1,ai b1]) (by simp)
   have t3:=Dp (N:=N) (a0+a1,b0+b1) ⟨⟨by simp only;omega,by simp only;omega⟩,by simp only;omega⟩ (args:=[ai (a0+a1),ai (b0+b1)]) (by simp)
   have s1:=mK (a:=a0) (b:=a1) (e:=false) (e':=false) (by omega) (by omega)
   have s2:=mK (a:=b0) (b:=b1) (e:=false) (e':=false) (by omega) (by omega)
   have kU:=mK (a:=a0*b0) (b:=a1*b1) (e:=false) (e':=false) (by omega) (by omega)
   have mo:=Dl ((a0+a1)*(b0+b1),a0*b0+a1*b1) ⟨by simp only;omega,by simp only;omega⟩ (args:=[ai ((a0+a1)*(b0+b1)),ai (a0*b0+a1*b1)]) (by simp)
   simp only at t1 t2 t3 mo
   generalize (a0+a1)*(b0+b1) -(a0*b0+a1*b1)=mid at*
   have uk:=sm (a:=mid) (n:=32*k) (e:=false) (by omega) (by omega)
   have um:=sm (a:=a1*b1) (n:=64*k) (e:=false) (by omega) (by omega)
   have F5:=kG mid (2^(32*k))
   have O8:=kG (a1*b1) (2^(64*k))
   have adx:(ad (2^(32*k))).length<=k+1:=ct.2 (by rw[<-kV,dR];have:=ju k;omega)
   have ady:(ad (2^(64*k))).length<=2*k+1:=ct.2 (by rw[show 64*k=32*(2*k) by omega,<-kV,dR];have:=ju (2*k);omega)
   have nP:=mK (a:=mid*2^(32*k)) (b:=a1*b1*2^(64*k)) (e:=false) (e':=false) (by omega) (by omega)
   have O9:=j' (mid*2^(32*k)) (a1*b1*2^(64*k))
   have nU:=mK (a:=a0*b0) (b:=mid*2^(32*k)+a1*b1*2^(64*k)) (e:=false) (e':=false) (by omega) (by omega)
   rw[fin] at nU
   generalize (a0+ah k*a1)*(b0+ah k*b1)=c at*
   generalize mid*2^(32*k)+a1*b1*2^(64*k)=b7 at*
   generalize mid*2^(32*k)=bX at*
   generalize a1*b1*2^(64*k)=cW at*
   generalize a0*b0+a1*b1=cS at*
   generalize (a0+a1)*(b0+b1)=vE at*
   generalize a0*b0=vF at*
   generalize a1*b1=iy at*
   generalize a0+a1=nA at*
   generalize b0+b1=wu at*
   have bP:IntKind.i64.wrap (Z 32*Z k)=Z (32*k):=tL (by omega)
   have cy:IntKind.i64.wrap (Z 64*Z k)=Z (64*k):=tL (by omega)
   have e9:(n+1)/2=k:=ag.symm
   refine aL [0,1,4,5,6,7,8,9,10,11,12,13,24] fun F K=>?_
   obtain⟨f0,f1,f4,f5,f6,f7,f8,f9,f10,f11,f12,f13,f24⟩:=K
   have H:=Rq bb.symm lb.symm c1 en pc bP cy e9 UY KR UZ KS t1 t2 t3 s1 s2 kU mo uk um nP nU
   have K:=km f0 f1 f4 f5 f6 f7 f8 f9 f10 f11 f12 f13 f24;clear f0 f1 f4 f5 f6 f7 f8 f9 f10 f11 f12 f13 f24
   exact a3 [0,1,4,5,6,7,8,9,10,11,12,13,24]
end
section
attribute [local irreducible] a7
attribute [local simp] c5 cZ ck
noncomputable def y6:FuncId->Option (List I->Option I):=cA [(170,kp),(185,oG),(257,kJ)]
theorem KT:∀f T,y6 f=some T->aP Tryz.prog G f T:=cH (by simp only[List.forall_mem_cons];exact ⟨pA,yK,Dm,fun _ h=>absurd h (by simp)⟩)
theorem U2:y6 170=some kp:=rfl
theorem U3:y6 185=some oG:=rfl
theorem U4:y6 257=some kJ:=rfl
attribute [local simp] U2 U3 U4
def KU (a L m:Nat) (s:aI):Prop:=∃q o r,o.length=L/\Small o/\(∀j,j<m->aB o j=0)/\r<3/\3*val o+ah m*r=ah m*(a/ah m)/\s.F 3= .ref q 0 L L/\s.F 4=fb r/\fe s.h q o
theorem U5 {o o' P B y v q r c d:Nat} (av:o'+P*y=o+P*v) (aO:y=0) (h:3*o+P*B*c=P*B*q) (a_:c*B+d=3*v+r):3*o'+P*r=P*(d+B*q):=by
 subst aO
 have e:P*(c*B+d)=P*(3*v+r):=by rw[a_]
 grind
theorem KV {r x:Nat} (ae:x<4294967296):r*4294967296|||x=r*4294967296+x:=by
 have e:(4294967296:Nat)=2^32:=by decide
 rw[e] at ae|-
 rw[Nat.mul_comm,Nat.two_pow_add_eq_or_of_lt ae]
theorem U6 {a o m r x:Nat} (aH:r<3) (ae:x<4294967296) (iP:x=a/ah m%4294967296) (av:3*o+ah (m+1)*r=ah (m+1)*(a/ah (m+1))):
 ∃R,r*4294967296=R/\R|||x=R+x/\R+x<18446744073709551616/\(R+x)/3<4294967296/\(R+x)/3<18446744073709551616/\
  ∀o',o'+ah m*0=o+ah m*((R+x)/3)->3*o'+ah m*((R+x)%3)=ah m*(a/ah m):=by
 refine⟨r*4294967296,rfl,KV ae,by omega,by omega,by omega,fun o' ay=>?_⟩
 · rw[dR] at av
   have:=U5 ay rfl av (show r*4294967296+x=3*((r*4294967296+x)/3)+(r*4294967296+x)%3 by omega)
   rw[this,iP,<-dR,qF,Nat.mod_add_div]
theorem qQ:(Z 0<=(-1:Int))=False:=eq_false (by decide)
theorem Dq:(Z 0<(3:Int))=True:=eq_true (by decide)
theorem Dr:(Z 1<(3:Int))=True:=eq_true (by decide)
theorem Ds:(Z 2<(3:Int))=True:=eq_true (by decide)
noncomputable def sy:List I->Option I:=bl (fun z:Nat=>(ad z).length<=100000000/\z%3=0) (fun z=>[ai z]) (fun z=>ai (z/3))
theorem U7 (z:Nat) (h:(ad z).length<=100000000/\z%3=0) {args:List I} (he:args.map I.loose= [ai z]):sy args=some (ai (z/3)):=bC (fun z w h=>by simp only[List.cons.injEq,I.int.injEq,I.bool.injEq,I.sl.injEq,cD,cB,cO,cP,cK,bO,b2,cJ,bD,true_and,and_true] at h;simp[h]) z h he
theorem U8:aP Tryz.prog G 258 sy:=by
 refine bB mixed KT Jc fun a ar=>?_
 obtain⟨bF,az⟩:=ar
 have aK:=dB a
 obtain⟨L,bb⟩:∃L,L=(ad a).length:=⟨_,rfl⟩
 have a4:a<ah L:=ct.1 (by omega)
 have aT:Z L*4<=140737488355328:=by simp only[Z];omega
 have sr:IntKind.i64.wrap (Z L - Z 1)=eT L:=ko (by omega)
 unfold i258
 refine aL [0,2,3,4,5,13] fun F K=>?_
 obtain⟨f0,f2,f3,f4,f5,f13⟩:=K
 have H:=b4 bb.symm aT sr (@y2)
 have K:=dW f0 f2 f3 f4 f5 f13;clear f0 f2 f3 f4 f5 f13
 refine bH [0,2,3,4,5,13] fun F k=>?_;clear K H
 obtain⟨f0,f2,f3,f4,f5,f13⟩:=k
 refine mF (fun m s=>m<=L/\KU a L m s/\s.F 5= .int .i64 (eT m)) (KU a L 0) (fun _=>False) L ?_ ?_ ?_ (fun _ _ h=>h.elim)
 · refine⟨Nat.le_refl _,⟨_,List.replicate L 0,0,by simp,py _,fun j _=>v7 _ _,by decide,by simp[r_,Nat.div_eq_of_lt a4],f3,f4,⟨by simp[an],by simp,by simp⟩⟩,f5⟩
 · rintro m s ag ⟨hm,⟨q,o,r,iF,fq,ar,aH,av,fv,jW,V⟩,fr⟩
   replace f0:=(ag 0 rfl).trans f0
   clear f3 f4 f5
   have f3:=fv
   have f4:=jW
   have f5:=fr
   have K:=b4 f0 f3 f4 f5;clear f0 f3 f4 f5
   refine bL [0,3,4,5,13] fun F k=>?_;clear K
   obtain⟨f0,f3,f4,f5,f13⟩:=k
   cases m with
   | zero=>
     rw[nM] at f5
     have H:=(@qQ)
     have K:=bw f0 f3 f4 f5 f13;clear f0 f3 f4 f5 f13
     refine bH [0,3,4,5,13] fun F k=>?_;clear K H
     obtain⟨f0,f3,f4,f5,f13⟩:=k
     exact ⟨q,o,r,iF,fq,ar,aH,av,f3,f4,V.bump _ _ (by omega)⟩
   | succ m=>
     rw[nN] at f5
     have ae:=aK.aB m
     have mM:=(j_ (show m<(ad a).length by omega)).symm
     have uf:=ir a m
     have go:=j0 (show m<o.length by omega)
     have sz:=kq (show 0<o.length by omega)
     generalize iP:aB (ad a) m=x at*
     obtain⟨R,sl,jz,C6,v8,U9,lB⟩:=U6 aH ae uf av
     have st:=oJ o m ((R+x)/3)
     have dJ:=V.cells
     have fC:=V.bR
     have sr:IntKind.i64.wrap (Z m - Z 1)=eT m:=ko (by omega)
     have CI:m<L:=by omega
     clear av uf
     have H:=vV dJ fC mM go iP sl jz C6 U9 v8 sz st sr CI bb.symm
     have K:=bw f0 f3 f4 f5 f13;clear f0 f3 f4 f5 f13
     refine bH [0,3,4,5,13] fun F k=>?_;clear K H
     obtain⟨f0,f3,f4,f5,f13⟩:=k
     have iu:=mI ((R+x)/3) (show m<o.length by omega)
     rw[ar m (by omega)] at iu
     refine⟨m,Nat.lt_succ_self m,by omega,⟨q,o.set m ((R+x)/3),(R+x)%3,by rw[List.length_set];exact iF,mJ fq v8,fun j aA=>?_,by omega,lB _ iu,f3,f4,V.put _ _ _ (by omega)⟩,rfl⟩
     · rw[m9 _ _ (by omega),if_neg (by omega)]
       exact ar j (by omega)
 · rintro s ag ⟨q,o,r,iF,fq,ar,aH,av,fv,jW,V⟩
   rw[fp,Nat.div_one] at av
   have lr:val o=a/3:=by omega
   clear f3 f4 f5
   have f3:=fv
   have dJ:=V.cells
   have cT:=oE (e:=false) fq (show o.length<=1073741824 by omega)
   rw[lr] at cT
   have iG:=y4 (show o.length<=L by omega)
   have nx:=y3 o
   have aw:=pE o
   have hle:L<=(a' o).length:=by omega
   have K:=f3;clear f3
   refine bL [2,3] fun F k=>?_;clear K
   obtain⟨f2,f3⟩:=k
   rw[show (o.map fun n=>I.int .u32 (Z n))=a' o from rfl] at cT
   have H:=bw dJ cT iG nx hle
   have K:=bA f2 f3;clear f2 f3
   exact a3 [2,3]
noncomputable def y7:List I->Option I:=bl (fun z:Nat × Nat=>(ad z.1).length<=1000000000/\(ad z.2).length<=1000000000) (fun z=>[ai z.1,ai z.2]) (fun z=> .bo [ai (if z.1<z.2 then z.2 - z.1 else z.1 - z.2),.bool (decide (z.1<z.2))])
theorem U_ (z:Nat × Nat) (h:(ad z.1).length<=1000000000/\(ad z.2).length<=1000000000) {args:List I} (he:args.map I.loose= [ai z.1,ai z.2]):y7 args=some (.bo [ai (if z.1<z.2 then z.2 - z.1 else z.1 - z.2),.bool (decide (z.1<z.2))]):=bC (fun z w h=>by simp only[List.cons.injEq,I.int.injEq,I.bool.injEq,I.sl.injEq,cD,cB,cO,cP,cK,bO,b2,cJ,bD,true_and,and_true] at h;simp[h]) z h he
theorem U':aP Tryz.prog G 280 y7:=by
 refine bB mixed KT Jl fun z ar=>?_
 obtain⟨a,b⟩:=z
 obtain⟨bF,a'⟩:=ar
 simp only at bF a'|-
 have t:=wj (a:=a) (b:=b) (e:=false) (e':=false) bF a'
 unfold i280
 by_cases h:a<b
 · rw[if_pos h] at t
   have t2:=Dl (b,a) ⟨a',bF⟩ (args:=[ai b,ai a]) (by simp)
   simp only at t2
   rw[if_pos h,decide_eq_true h]
   generalize b - a=c at*
   refine aL [0,1,4,5,6,7,14] fun F K=>?_
   obtain⟨f0,f1,f4,f5,f6,f7,f14⟩:=K
   have H:=bA t t2
   have K:=dq f0 f1 f4 f5 f6 f7 f14;clear f0 f1 f4 f5 f6 f7 f14
   exact a3 [0,1,4,5,6,7,14]
 · rw[if_neg h] at t
   rw[if_neg h,decide_eq_false h]
   generalize a - b=c at*
   refine aL [0,1,4,5,6,7,14] fun F K=>?_
   obtain⟨f0,f1,f4,f5,f6,f7,f14⟩:=K
   have H:=t
   have K:=dq f0 f1 f4 f5 f6 f7 f14;clear f0 f1 f4 f5 f6 f7 f14
   exact a3 [0,1,4,5,6,7,14]
noncomputable def y8:FuncId->Option (List I->Option I):=cA [(174,jv),(172,lC),(280,y7)]
theorem Va:∀f T,y8 f=some T->aP Tryz.prog G f T:=cH (by simp only[List.forall_mem_cons];exact ⟨t',yM,U',fun _ h=>absurd h (by simp)⟩)
theorem Vb:y8 174=some jv:=rfl
theorem Vc:y8 172=some lC:=rfl
theorem Vd:y8 280=some y7:=rfl
attribute [local simp] Vb Vc Vd
def l1 (a b c:Nat):Nat:=if a+c<b then b -(a+c) else a+c - b
noncomputable def uo:List I->Option I:=bl (fun z:Nat × Nat × Nat=>(ad z.1).length<=10000000/\(ad z.2.1).length<=10000000/\(ad z.2.2).length<=10000000) (fun z=>[.agg [ai z.1,ai z.2.1,ai z.2.2]]) (fun z=> .bo [ai (z.1+z.2.2+z.2.1),ai (l1 z.1 z.2.1 z.2.2),ai (z.1+(z.2.1*2^1+z.2.2*2^2)),.bool (decide (z.1+z.2.2<z.2.1))])
theorem KW (z:Nat × Nat × Nat) (h:(ad z.1).length<=10000000/\(ad z.2.1).length<=10000000/\(ad z.2.2).length<=10000000) {args:List I} (he:args.map I.loose= [.agg [ai z.1,ai z.2.1,ai z.2.2]]):uo args=some (.bo [ai (z.1+z.2.2+z.2.1),ai (l1 z.1 z.2.1 z.2.2),ai (z.1+(z.2.1*2^1+z.2.2*2^2)),.bool (decide (z.1+z.2.2<z.2.1))]):=bC (fun z w h=>by simp only[I.agg.injEq,List.cons.injEq,I.int.injEq,I.bool.injEq,I.sl.injEq,cD,cB,cO,cP,cK,bO,b2,cJ,bD,true_and,and_true] at h;simp[h]) z h he
theorem Ve:aP Tryz.prog G 256 uo:=by
 refine bB mixed Va Ja fun z ar=>?_
 obtain⟨a,b,c⟩:=z
 obtain⟨bF,a',lc⟩:=ar
 simp only at bF a' lc|-
 have adz:=j' a c
 have t1:=mK (a:=a) (b:=c) (e:=false) (e':=false) (by omega) (by omega)
 have t2:=mK (a:=a+c) (b:=b) (e:=false) (e':=false) (by omega) (by omega)
 have t3:=U_ (a+c,b) ⟨by simp only;omega,by simp only;omega⟩ (args:=[ai (a+c),ai b]) (by simp)
 have t4:=sm (a:=b) (n:=1) (e:=false) (by omega) (by omega)
 have t5:=sm (a:=c) (n:=2) (e:=false) (by omega) (by omega)
 have nV:=kG b (2^1)
 have adA:=kG c (2^2)
 have mb:(ad (2^1)).length<=1:=ct.2 (by rw[qE];decide)
 have ki:(ad (2^2)).length<=1:=ct.2 (by rw[qE];decide)
 have adB:=j' (b*2^1) (c*2^2)
 have t6:=mK (a:=b*2^1) (b:=c*2^2) (e:=false) (e':=false) (by omega) (by omega)
 have t7:=mK (a:=a) (b:=b*2^1+c*2^2) (e:=false) (e':=false) (by omega) (by omega)
 simp only at t3
 rw[show (if a+c<b then b -(a+c) else a+c - b)=l1 a b c from rfl] at t3
 generalize decide (a+c<b)=neg at*
 generalize l1 a b c=adC at*
 generalize a+(b*2^1+c*2^2)=b7 at*
 generalize b*2^1+c*2^2=bX at*
 generalize b*2^1=cW at*
 generalize c*2^2=cS at*
 generalize a+c+b=vE at*
 generalize a+c=vF at*
 unfold i256
 refine aL [0,1,2,3,4,5,6] fun F K=>?_
 obtain⟨f0,f1,f2,f3,f4,f5,f6⟩:=K
 have H:=iU (@Dq) (@Dr) (@Ds) t1 t2 t3 t4 t5 t6 t7
 have K:=dq f0 f1 f2 f3 f4 f5 f6;clear f0 f1 f2 f3 f4 f5 f6
 exact a3 [0,1,2,3,4,5,6]
end
end
section
set_option maxHeartbeats 8000000
open Go Go.Eng Go.RowKit
def two (ab b':Nat):Nat:=ab*4294967296+b'
theorem Dt {ab b':Nat} (h:ab<4294967296) (h2:b'<4294967296):∃R,ab*4294967296=R/\R|||b'=two ab b'/\R<18446744073709551616/\two ab b'<18446744073709551616:=
 ⟨_,rfl,KV h2,by omega,by simp only[two];omega⟩
theorem KX {ab b' y:Nat} (h:ab<y) (h2:b'<4294967296) (aO:y<4294967296):two ab b'/y<4294967296/\two ab b'%y<4294967296:=by
 refine⟨?_,Nat.lt_trans (Nat.mod_lt _ (by omega)) aO⟩
 rw[Nat.div_lt_iff_lt_mul (by omega),two]
 have az:(ab+1)*4294967296<=y*4294967296:=Nat.mul_le_mul_right _ h
 rw[Nat.add_mul] at az
 rw[Nat.mul_comm 4294967296]
 omega
def lF (x2 x1 x0 y1 y0:Nat):Nat:=min (two (two x2 x1) x0/two y1 y0) 4294967295
theorem KY {x2 x1 x0 y1 y0:Nat}:lF x2 x1 x0 y1 y0<=4294967295:=Nat.min_le_right _ _
theorem Vf {q r y1 y0 x2 x1 x0:Nat} (aG:q*y1+r=two x2 x1) (h:q*y0<=two r x0):q*two y1 y0<=two (two x2 x1) x0:=by
 rw[<-aG];simp only[two] at*;grind
theorem Vg {q r y1 y0 x2 x1 x0:Nat} (aG:q*y1+r=two x2 x1) (h:two r x0<q*y0):two (two x2 x1) x0<q*two y1 y0:=by
 rw[<-aG];simp only[two] at*;grind
theorem KZ {q r y1 y0 x2 x1 x0:Nat} (aO:y1≠0) (aG:q*y1+r=two x2 x1) (rD:lF x2 x1 x0 y1 y0<=q) (U:q<4294967296) (h:q*y0<=two r x0):q=lF x2 x1 x0 y1 y0:=by
 have h2:q<=two (two x2 x1) x0/two y1 y0:=(Nat.le_div_iff_mul_le (by simp only[two];omega)).2 (Vf aG h)
 unfold lF at*;omega
theorem Vh {q r y1 y0 x2 x1 x0:Nat} (aO:y1≠0) (aG:q*y1+r=two x2 x1) (h:4294967296<=q\/two r x0<q*y0):lF x2 x1 x0 y1 y0<=q - 1/\1<=q:=by
 rcases h with h|h
 · have:=KY (x2:=x2) (x1:=x1) (x0:=x0) (y1:=y1) (y0:=y0);omega
 · have h2:two (two x2 x1) x0/two y1 y0<q:=(Nat.div_lt_iff_lt_mul (by simp only[two];omega)).2 (Vg aG h)
   unfold lF
   generalize two (two x2 x1) x0/two y1 y0=d at*
   omega
theorem Vi {q r y1 y0 x2 x1 x0:Nat} (aO:y1≠0) (ae:x2<=y1) (Vj:x1<4294967296) (jC:y0<4294967296) (aG:q*y1+r=two x2 x1) (rD:lF x2 x1 x0 y1 y0<=q) (aH:4294967296<=r):q=lF x2 x1 x0 y1 y0:=by
 have U:q*y1<4294967296*y1:=by
  have:x2*4294967296<=y1*4294967296:=Nat.mul_le_mul_right _ ae
  simp only[two] at aG
  rw[Nat.mul_comm 4294967296]
  omega
 have h2:q<4294967296:=Nat.lt_of_mul_lt_mul_right U
 refine KZ aO aG rD h2 ?_
 have az:q*y0<=4294967295*4294967295:=Nat.mul_le_mul (by omega) (by omega)
 simp only[two]
 omega
theorem Vk {y1 x2 x1 x0 y0:Nat} (aO:y1≠0) (iP:x0<4294967296):lF x2 x1 x0 y1 y0<=two x2 x1/y1:=by
 have a_:=Nat.div_add_mod (two x2 x1) y1
 have hm:=Nat.mod_lt (two x2 x1) (Nat.pos_of_ne_zero aO)
 have:two (two x2 x1) x0/two y1 y0<two x2 x1/y1+1:=by
  generalize two x2 x1=t at*
  rw[Nat.div_lt_iff_lt_mul (by simp only[two];omega)]
  generalize t/y1=q at*
  generalize t%y1=r at*
  subst a_
  simp only[two]
  have e:(q+1)*(y1*4294967296+y0)=q*y1*4294967296+y1*4294967296+(q+1)*y0:=by grind
  have ao:(r+1)*4294967296<=y1*4294967296:=Nat.mul_le_mul_right _ hm
  rw[e,Nat.mul_comm y1 q]
  rw[Nat.add_mul] at ao
  rw[Nat.add_mul]
  omega
 unfold lF;omega
end
section
set_option maxHeartbeats 8000000
open Go Go.Eng Go.RowKit
attribute [local simp] aU.m aU.o aU.n aU.g eM dN cE ch cM evalOp.eq_1 evalOp.eq_2 evalOp.eq_3 evalOp.eq_4 evalOp.eq_5 evalOp.eq_6 evalOp.eq_7 evalOp.eq_8 evalOp.eq_9 evalOp.eq_10 evalOp.eq_11 evalOp.eq_12 evalOp.eq_13 evalOp.eq_14 evalOp.eq_15 evalOp.eq_16 evalOp.eq_17 evalOp.eq_18 evalOp.eq_19 evalOp.eq_20 evalOp.eq_21 evalOp.eq_22 evalOp.eq_23 evalOp.eq_24 evalOp.eq_25 evalOp.eq_27 evalOp.eq_28 evalOp.eq_29 hX aQ.ev cg an af.new ds I.cells I.bW I.dk I.dh fU fW fV fX fZ fY hh hi hj e7 e8 cut partOf bound elems hl hn ho hp hq hr hs ht hv hx hy hz fm hA hB hC hD hE hF hG hH hI hJ hK hL hM hN hO hP hQ hR hS hT hU hV hW dM dC dz eF f_ fz af.close af.set fB hY hZ h0 hk fA fy fa dP fj fL fk fl fM fN fO eC eD eE eB f' bD fJ ga fK gb gd eo gf ep gg gh gi e1 hg gj gk gl gm gn gp gq gr gu gv gw gx gy gz gA gB gC gD gE e_ gF gG gH gI gJ gK gL gM gN gO gP gQ gR gS gT
attribute [local simp high] hc hd hf gU gV gW gX gY gZ g0 g1 g2 g3 g4 g5 g6 g7 g8 g9 g_ g' ha hb
attribute [local simp] aD List.getElem?_cons_zero List.getElem?_cons_succ dc cf eY Nat.mod_eq_of_lt ig ih ij ik e2 il im iq
section
attribute [local irreducible] a7
attribute [local simp] c5 cZ ck
noncomputable def K0:FuncId->Option (List I->Option I):=cA [(266,yG)]
theorem Du:∀f T,K0 f=some T->aP Tryz.prog G f T:=cH (by simp only[List.forall_mem_cons];exact ⟨Tx,fun _ h=>absurd h (by simp)⟩)
theorem Vl:K0 266=some yG:=rfl
attribute [local simp] Vl
noncomputable def y9:List I->Option I:=bl (fun z:Nat × Nat × Nat=>z.1<z.2.2/\z.2.1<4294967296/\z.2.2<4294967296) (fun z=>[bh z.1,bh z.2.1,bh z.2.2]) (fun z=> .bo [bh (two z.1 z.2.1/z.2.2),bh (two z.1 z.2.1%z.2.2)])
theorem Vm (z:Nat × Nat × Nat) (h:z.1<z.2.2/\z.2.1<4294967296/\z.2.2<4294967296) {args:List I} (he:args.map I.loose= [bh z.1,bh z.2.1,bh z.2.2]):y9 args=some (.bo [bh (two z.1 z.2.1/z.2.2),bh (two z.1 z.2.1%z.2.2)]):=bC (fun z w h=>by simp only[List.cons.injEq,I.int.injEq,I.bool.injEq,I.sl.injEq,cD,cB,cO,cP,cK,bO,b2,cJ,bD,true_and,and_true] at h;simp[h]) z h he
theorem Vn:aP Tryz.prog G 282 y9:=by
 refine bB mixed Du Jn fun z ar=>?_
 obtain⟨ab,b',y⟩:=z
 obtain⟨U,h2,az⟩:=ar
 simp only at U h2 az|-
 obtain⟨R,ee,jz,b1,dL⟩:=Dt (show ab<4294967296 by omega) h2
 obtain⟨d1,d2⟩:=KX U h2 az
 have aO:¬y=0:=by omega
 have wv:0<y:=by omega
 have d3:two ab b'/y<18446744073709551616:=by omega
 have d4:y<18446744073709551616:=by omega
 generalize two ab b'=w at*
 unfold i282
 refine aL [0,1,2,6,7,8,15] fun F K=>?_
 obtain⟨f0,f1,f2,f6,f7,f8,f15⟩:=K
 have H:=kl U aO wv ee jz b1 dL d1 d2 d3 d4
 have K:=dq f0 f1 f2 f6 f7 f8 f15;clear f0 f1 f2 f6 f7 f8 f15
 exact a3 [0,1,2,6,7,8,15]
noncomputable def y_:List I->Option I:=bl (fun z:Nat=>z<4294967296) (fun z=>[bh z]) (fun z=>aR (32 - dx z))
theorem Vo (z:Nat) (h:z<4294967296) {args:List I} (he:args.map I.loose= [bh z]):y_ args=some (aR (32 - dx z)):=bC (fun z w h=>by simp only[List.cons.injEq,I.int.injEq,I.bool.injEq,I.sl.injEq,cD,cB,cO,cP,cK,bO,b2,cJ,bD,true_and,and_true] at h;simp[h]) z h he
theorem Vp:aP Tryz.prog G 260 y_:=by
 refine bB mixed Du Je fun n aq=>?_
 have t:=Tw (n:=n) aq
 have aa:dx n<=32:=oD.2 aq
 have hw:IntKind.i64.wrap (Z 32 - Z (dx n))=Z (32 - dx n):=cf aa (by decide)
 unfold i260
 refine aL [0,2] fun F K=>?_
 obtain⟨f0,f2⟩:=K
 have H:=bA t hw
 have K:=bA f0 f2;clear f0 f2
 exact a3 [0,2]
noncomputable def uq:List I->Option I:=bl (fun z:Nat × Nat × Nat × Nat × Nat=>z.1<=z.2.2.2.1/\z.2.1<4294967296/\z.2.2.1<4294967296/\z.2.2.2.1<4294967296/\z.2.2.2.2<4294967296/\z.2.2.2.1≠0) (fun z=>[bh z.1,bh z.2.1,bh z.2.2.1,bh z.2.2.2.1,bh z.2.2.2.2]) (fun z=>fb (lF z.1 z.2.1 z.2.2.1 z.2.2.2.1 z.2.2.2.2))
theorem Vq (z:Nat × Nat × Nat × Nat × Nat) (h:z.1<=z.2.2.2.1/\z.2.1<4294967296/\z.2.2.1<4294967296/\z.2.2.2.1<4294967296/\z.2.2.2.2<4294967296/\z.2.2.2.1≠0) {args:List I} (he:args.map I.loose= [bh z.1,bh z.2.1,bh z.2.2.1,bh z.2.2.2.1,bh z.2.2.2.2]):uq args=some (fb (lF z.1 z.2.1 z.2.2.1 z.2.2.2.1 z.2.2.2.2)):=bC (fun z w h=>by simp only[List.cons.injEq,I.int.injEq,I.bool.injEq,I.sl.injEq,cD,cB,cO,cP,cK,bO,b2,cJ,bD,true_and,and_true] at h;simp[h]) z h he
theorem Vr:aP Tryz.prog G 261 uq:=by
 refine bB mixed Du Jf fun z ar=>?_
 obtain⟨x2,x1,x0,y1,y0⟩:=z
 obtain⟨h2,U,pe,bx,jo,aO⟩:=ar
 simp only at h2 U pe bx jo aO|-
 obtain⟨R,ee,jz,b1,dL⟩:=Dt (show x2<4294967296 by omega) U
 have Vs:=Vk (x2:=x2) (x1:=x1) (y0:=y0) aO pe
 have gs:=fun q r=>KZ (q:=q) (r:=r) (x2:=x2) (x1:=x1) (x0:=x0) (y0:=y0) aO
 have Vt:=fun q r=>Vh (q:=q) (r:=r) (x2:=x2) (x1:=x1) (x0:=x0) (y0:=y0) aO
 have oI:=fun q r=>Vi (q:=q) (r:=r) (x2:=x2) (x1:=x1) (x0:=x0) (y0:=y0) aO h2 U jo
 generalize lF x2 x1 x0 y1 y0=K1 at*
 generalize two x2 x1=w at*
 have wv:0<y1:=by omega
 have d4:y1<18446744073709551616:=by omega
 have ub:=Nat.div_le_self w y1
 have K2:=Nat.mod_lt w wv
 have Vu:=Nat.div_add_mod w y1
 have d5:w/y1<18446744073709551616:=by omega
 unfold i261
 refine aL [0,1,2,3,4,10,11,12,13,41,49] fun F K=>?_
 obtain⟨f0,f1,f2,f3,f4,f10,f11,f12,f13,f41,f49⟩:=K
 have H:=e3 aO wv ee jz b1 dL d4 d5
 have K:=kl f0 f1 f2 f3 f4 f10 f11 f12 f13 f41 f49;clear f0 f1 f2 f3 f4 f10 f11 f12 f13 f41 f49
 refine bH [0,1,2,3,4,10,11,12,13,41,49] fun F k=>?_;clear K H
 obtain⟨f0,f1,f2,f3,f4,f10,f11,f12,f13,f41,f49⟩:=k
 refine mF (fun q s=>∃r,q*y1+r=w/\K1<=q/\r<4294967296/\s.F 12=fb q/\s.F 13=fb r) (fun s=>s.F 12=fb K1) (fun _=>False) (w/y1) ?_ ?_ ?_ (fun _ _ h=>h.elim)
 · exact ⟨w%y1,by rw[Nat.mul_comm];exact Vu,Vs,by omega,f12,f13⟩
 · clear ee jz b1
   rintro q s ag ⟨r,aG,rD,aH,nb,wx⟩
   replace f2:=(ag 2 rfl).trans f2;replace f3:=(ag 3 rfl).trans f3;replace f4:=(ag 4 rfl).trans f4
   clear f12 f13
   have f12:=nb
   have f13:=wx
   obtain⟨adD,Dv,dD,kx,Dw⟩:=Dt aH pe
   have adE:q<18446744073709551616:=by
    have:q*1<=q*y1:=Nat.mul_le_mul_left q wv
    omega
   have Dx:y0<18446744073709551616:=by omega
   have s1:=gs q r aG rD
   have s2:=Vt q r aG
   generalize two r x0=v at*
   have main:(q<4294967296/\q*y0<=v)\/(4294967296<=q\/(q<4294967296/\v<q*y0)):=by omega
   have Dy:q<4294967296->q*y0<18446744073709551616:=fun h=>by
    have:q*y0<=4294967295*4294967295:=Nat.mul_le_mul (by omega) (by omega)
    omega
   have K:=bw f2 f3 f4 f12 f13;clear f2 f3 f4 f12 f13
   refine bL [2,3,4,12,13,41,49] fun F k=>?_;clear K
   obtain⟨f2,f3,f4,f12,f13,f41,f49⟩:=k
   rcases main with⟨c1,en⟩|main
   · have e:=s1 c1 en
     have wy:=Dy c1
     generalize wz:q*y0=K3 at*
     have H:=h7 Dv dD kx Dw wz c1 en wy Dx
     have K:=dq f2 f3 f4 f12 f13 f41 f49;clear f2 f3 f4 f12 f13 f41 f49
     refine bH [2,3,4,12,13,41,49] fun F k=>?_;clear K H
     obtain⟨f2,f3,f4,f12,f13,f41,f49⟩:=k
     first|exact e|(rw[f12,e])
   · obtain⟨kU,mo⟩:=s2 (by omega)
     have al:(q+18446744073709551615)%18446744073709551616=q - 1:=by omega
     have ao:r+y1<18446744073709551616:=by omega
     have qn:(q - 1)*y1+(r+y1)=w:=by
      rw[<-aG]
      obtain⟨p,rfl⟩:∃p,q=p+1:=⟨q - 1,by omega⟩
      rw[Nat.add_sub_cancel,Nat.add_mul];omega
     by_cases wA:4294967296<=r+y1
     · have e:=oI (q - 1) (r+y1) qn kU wA
       rcases main with c1|⟨c1,en⟩
       · skip
         have H:=bw c1 al ao wA d4
         have K:=dq f2 f3 f4 f12 f13 f41 f49;clear f2 f3 f4 f12 f13 f41 f49
         refine bH [2,3,4,12,13,41,49] fun F k=>?_;clear K H
         obtain⟨f2,f3,f4,f12,f13,f41,f49⟩:=k
         first|exact e|(rw[f12,e])
       · have wy:=Dy c1
         generalize wz:q*y0=K3 at*
         have H:=km Dv dD kx Dw wz c1 en wy Dx al ao wA d4
         have K:=dq f2 f3 f4 f12 f13 f41 f49;clear f2 f3 f4 f12 f13 f41 f49
         refine bH [2,3,4,12,13,41,49] fun F k=>?_;clear K H
         obtain⟨f2,f3,f4,f12,f13,f41,f49⟩:=k
         first|exact e|(rw[f12,e])
     · rcases main with c1|⟨c1,en⟩
       · skip
         have H:=bw c1 al ao wA d4
         have K:=dq f2 f3 f4 f12 f13 f41 f49;clear f2 f3 f4 f12 f13 f41 f49
         refine bH [2,3,4,12,13,41,49] fun F k=>?_;clear K H
         obtain⟨f2,f3,f4,f12,f13,f41,f49⟩:=k
         exact ⟨q - 1,by omega,r+y1,qn,kU,by omega,by first|rfl|exact f12,by first|rfl|exact f13⟩
       · have wy:=Dy c1
         generalize wz:q*y0=K3 at*
         have H:=km Dv dD kx Dw wz c1 en wy Dx al ao wA d4
         have K:=dq f2 f3 f4 f12 f13 f41 f49;clear f2 f3 f4 f12 f13 f41 f49
         refine bH [2,3,4,12,13,41,49] fun F k=>?_;clear K H
         obtain⟨f2,f3,f4,f12,f13,f41,f49⟩:=k
         exact ⟨q - 1,by omega,r+y1,qn,kU,by omega,by first|rfl|exact f12,by first|rfl|exact f13⟩
 · rintro s ag nb
   clear f12 f13
   have f12:=nb
   have K:=f12;clear f12
   refine bL [10,12] fun F k=>?_;clear K
   obtain⟨f10,f12⟩:=k
   have H:=trivial
   have K:=bA f10 f12;clear f10 f12
   exact a3 [10,12]
end
end
end Go.Proofs.YtemiagcencajeaaGreatDoor
