/- What the claim needs of the walks, put together by a program (shake.py). -/
import Derived.Test.YtcikknajimdjoaaGreatDoorFpD
set_option maxRecDepth 100000
set_option linter.unusedSimpArgs false
set_option linter.unusedVariables false
set_option linter.unusedSectionVars false
namespace Go.Proofs.YtcikknajimdjoaaGreatDoor
section
set_option maxHeartbeats 8000000
open Go Go.Eng Go.RowKit
attribute [local simp] bH.m bH.o bH.n bH.g hy fh dG dr dJ evalOp.eq_1 evalOp.eq_2 evalOp.eq_3 evalOp.eq_4 evalOp.eq_5 evalOp.eq_6 evalOp.eq_7 evalOp.eq_8 evalOp.eq_9 evalOp.eq_10 evalOp.eq_11 evalOp.eq_12 evalOp.eq_13 evalOp.eq_14 evalOp.eq_15 evalOp.eq_16 evalOp.eq_17 evalOp.eq_18 evalOp.eq_19 evalOp.eq_20 evalOp.eq_21 evalOp.eq_22 evalOp.eq_23 evalOp.eq_24 evalOp.eq_25 evalOp.eq_27 evalOp.eq_28 evalOp.eq_29 kl bn.cu dq aG aF.new a8 J.cells J.dp J.e7 J.ft il iq im ir iv iu jK jL jM gY gZ cut partOf bound elems jO jP jQ jR jS jT jU jV jW jX jY jZ h1 j0 j1 j2 j3 j4 j5 j6 j7 j8 j9 j_ j' ka kb kc kd ke kf kg kh ki kj kk ff e8 e1 gi iw hA aF.close aF.set h3 km kn ko jN hB gD gq gJ gr hX gu gK hY hZ h0 gf gg gh gd ix bI hU iy hV iz iA fY iB fw iC iD iE gT jJ iF iG iH iI iJ iK iL iM iN iO iP iQ iR iS iT iU iV iW iX hf iY iZ i_ i' ja jb jc jd je jf jg jh ji jj jk
attribute [local simp high] jG jH jI jl jm jn jo jq jr js jt ju jv jw jx jy jz jA jB jC jD jE jF
attribute [local simp] aS List.getElem?_cons_zero List.getElem?_cons_succ fa eh gl Nat.mod_eq_of_lt kH kI kJ kK gL kL kM kN
section
attribute [local irreducible] cQ
attribute [local simp] ek eL du
def cm (o:List Nat):List J:=o.map fun n=> .int .u32 (Z n)
theorem kP {o:List Nat} {i:Nat} (h:i<o.length):(cm o)[i]? =some (.int .u32 (Z (a5 o i))):=o9 h
theorem pU (o:List Nat) (i v:Nat):(cm o).set i (.int .u32 (Z v))=cm (o.set i v):=map_set o i v
theorem qA (o:List Nat):(cm o).length=o.length:=by simp[cm]
theorem lq {o:List Nat} (h:0<o.length):sizedB 1 (some (cm o))=true:=by
 simp[sizedB,cm,J.cells];exact h
theorem h6 (n:Nat):List.replicate n (J.int .u32 (Z 0))=cm (List.replicate n 0):=P6 n
theorem y4 (o:List Nat):(cm o).all J.ft=true:=wI o
theorem y5 {o:List Nat} {n:Nat} (h:o.length<=n):List.take n (cm o)=cm o:=List.take_of_length_le (by rw[qA];exact h)
structure fy (h:aF) (q:Nat) (o:List Nat):Prop where
 cells:h.cells q=some (cm o)
 bD:h.shut q=false
 fx:q<h.next
theorem fy.bump {h:aF} {q:Nat} {o:List Nat} (R:fy h q o) (m:Nat) (p:Nat->Option fu) (hm:h.next<=m):fy ⟨h.cells,h.shut,m,p⟩ q o:=⟨R.cells,R.bD,Nat.lt_of_lt_of_le R.fx hm⟩
theorem fy.put {h:aF} {q:Nat} {o:List Nat} (R:fy h q o) (o':List Nat) (m:Nat) (p:Nat->Option fu) (hm:h.next<=m):fy ⟨aG h.cells q (some (cm o')),h.shut,m,p⟩ q o':=
 ⟨by simp only[aG,if_true],R.bD,Nat.lt_of_lt_of_le R.fx hm⟩
theorem fy.new {h:aF} {q:Nat} {o:List Nat} (m:Nat) (p:Nat->Option fu) (aP:h.shut q=false) (bo:q<m):fy ⟨aG h.cells q (some (cm o)),h.shut,m,p⟩ q o:=
 ⟨by simp only[aG,if_true],aP,bo⟩
noncomputable def I0:FuncId->Option (List J->Option J):=da [(98,ln)]
theorem RK:∀f T,I0 f=some T->bl Tryz.prog G f T:=dc (by simp only[List.forall_mem_cons];exact ⟨qt,fun _ h=>absurd h (by simp)⟩)
theorem RL:I0 98=some ln:=rfl
attribute [local simp] RL
def I1 (a b A B i:Nat) (s:bg):Prop:=∃q o,o.length=A+B/\Small o/\(∀j,i+B<=j->a5 o j=0)/\val o=a%aE i*b/\s.F 5= .ref q 0 (A+B) (A+B)/\fy s.h q o
def I2 (a b A B i x k:Nat) (s:bg):Prop:=∃q o c,o.length=A+B/\Small o/\(∀j,i+B<=j->a5 o j=0)/\c<4294967296/\val o+aE i*aE k*c=a%aE i*b+aE i*(x*(b%aE k))/\s.F 5= .ref q 0 (A+B) (A+B)/\s.F 8=e3 c/\fy s.h q o
noncomputable def uK:List J->Option J:=cl (fun z:Nat × Nat=>(ai z.1).length<=100000000/\(ai z.2).length<=100000000) (fun z=>[aw z.1,aw z.2]) (fun z=>aw (z.1*z.2))
theorem I3 (z:Nat × Nat) (h:(ai z.1).length<=100000000/\(ai z.2).length<=100000000) {args:List J} (he:args.map J.loose= [aw z.1,aw z.2]):uK args=some (aw (z.1*z.2)):=cI (fun z w h=>by first|(simp only[List.cons.injEq,J.int.injEq,J.bool.injEq,J.sl.injEq,bT,bU,bY,bZ,bX,bG,bL,bV,bI,true_and,and_true] at h;simp[h];done)|(simp only[J.agg.injEq,List.cons.injEq,J.int.injEq,J.bool.injEq,J.sl.injEq,bT,bU,bY,bZ,bX,bG,bL,bV,bI,true_and,and_true] at h;simp[h])) z h he
theorem I4:bl Tryz.prog G 134 uK:=by
 refine cJ mixed RK Ha fun z aV=>?_
 obtain⟨a,b⟩:=z
 obtain⟨cZ,RM⟩:=aV
 simp only at cZ RM|-
 have bF:=dW a
 have au:=dW b
 obtain⟨A,aU⟩:∃A,A=(ai a).length:=⟨_,rfl⟩
 obtain⟨B,a9⟩:∃B,B=(ai b).length:=⟨_,rfl⟩
 have Cf:a<aE A:=c8.1 (by omega)
 have Cg:b<aE B:=c8.1 (by omega)
 have hw:IntKind.i64.wrap (Z A+Z B)=Z (A+B):=fa (by omega)
 have a2:Z (A+B)*4<=140737488355328:=by simp only[Z];omega
 unfold i134
 refine al [0,1,4,5,6,7,8,9,10,17,18,19,20,24,25,26,27] fun F=>?_
 simp only[ak]
 intro f0 f1 f4 f5 f6 f7 f8 f9 f10 f17 f18 f19 f20 f24 f25 f26 f27
 simp[a8] at f0 f1 f4 f5 f6 f7 f8 f9 f10 f17 f18 f19 f20 f24 f25 f26 f27
 repeat' (first
  | refine ax ?_
  | ((fail_if_success (refine aQ ?_));(fail_if_success (refine aR ?_));refine aL ?_)
  | ((first|(refine az aM ?_;simp(disch:=omega) [<-aU,<-a9,hw,a2,h6,f0,f1,f4,f5,f6,f7,f8,f9,f10,f17,f18,f19,f20,f24,f25,f26,f27];(try(refine⟨by first|decide|rfl,?_⟩)))|(refine aK ?_;simp(disch:=omega) [<-aU,<-a9,hw,a2,h6,f0,f1,f4,f5,f6,f7,f8,f9,f10,f17,f18,f19,f20,f24,f25,f26,f27]));(try(refine al [0,1,4,5,6,7,8,9,10,17,18,19,20,24,25,26,27] ?_;intro F;simp only[ak];intro U ab ad ah ag ar ao aA aB bx bP dX bO cL ch c_ c5;simp(disch:=omega) [<-aU,<-a9,hw,a2,h6,f0,f1,f4,f5,f6,f7,f8,f9,f10,f17,f18,f19,f20,f24,f25,f26,f27] at U ab ad ah ag ar ao aA aB bx bP dX bO cL ch c_ c5;clear f0 f1 f4 f5 f6 f7 f8 f9 f10 f17 f18 f19 f20 f24 f25 f26 f27;have f0:=U;have f1:=ab;have f4:=ad;have f5:=ah;have f6:=ag;have f7:=ar;have f8:=ao;have f9:=aA;have f10:=aB;have f17:=bx;have f18:=bP;have f19:=dX;have f20:=bO;have f24:=cL;have f25:=ch;have f26:=c_;have f27:=c5;clear U ab ad ah ag ar ao aA aB bx bP dX bO cL ch c_ c5)))
  | (refine aJ _ (by simp(disch:=omega) [<-aU,<-a9,hw,a2,h6,f0,f1,f4,f5,f6,f7,f8,f9,f10,f17,f18,f19,f20,f24,f25,f26,f27];rfl) (fun I=>?_) (fun I=>?_)<;>first|(exfalso;simp(disch:=omega) [<-aU,<-a9,hw,a2,h6] at I;done)|(exfalso;simp at I;omega)|(simp at I))
  | ((first|refine aH ?_|refine aN ?_);simp(disch:=omega) [<-aU,<-a9,hw,a2,h6,f0,f1,f4,f5,f6,f7,f8,f9,f10,f17,f18,f19,f20,f24,f25,f26,f27]))
 refine o8 A (fun i s=>I1 a b A B i s/\s.F 19=bp i) (I1 a b A B A) (fun _=>False) ?_ ?_ ?_ (fun _ _ h=>h.elim)
 · exact ⟨⟨_,List.replicate (A+B) 0,by simp,qs _,fun j _=>wN _ _,by simp[sG,fC,Nat.mod_one],f5,⟨by simp[aG],by simp,by simp⟩⟩,f19⟩
 · rintro i s an aI ⟨⟨q,o,hh,fD,aV,aY,ev,V⟩,RN⟩
   replace f0:=(aI 0 rfl).trans f0;replace f1:=(aI 1 rfl).trans f1;replace f17:=(aI 17 rfl).trans f17;replace f18:=(aI 18 rfl).trans f18
   clear f5 f19
   have f5:=ev
   have f19:=RN
   refine al [0,1,5,6,7,8,17,18,19,20,24,25,26] ?_
   intro F
   simp only[ak]
   intro U ab ah ag ar ao bx bP dX bO cL ch c_
   try simp[aS,f0,f1,f5,f17,f18,f19] at U ab ah ag ar ao bx bP dX bO cL ch c_
   clear f0 f1 f5 f17 f18 f19
   have f0:=U
   have f1:=ab
   have f5:=ah
   have f6:=ag
   have f7:=ar
   have f8:=ao
   have f17:=bx
   have f18:=bP
   have f19:=dX
   have f20:=bO
   have f24:=cL
   have f25:=ch
   have f26:=c_
   clear U ab ah ag ar ao bx bP dX bO cL ch c_
   by_cases fj:i<A
   · have av:=bF.a5 i
     have gW:=(k4 (show i<(ai a).length by omega)).symm
     have uH:=gv a i
     generalize e4:a5 (ai a) i=x at*
     repeat' (first
      | refine ax ?_
      | ((fail_if_success (refine aQ ?_));(fail_if_success (refine aR ?_));refine aL ?_)
      | ((first|(refine az aM ?_;simp(disch:=omega) [fj,gW,e4,<-aU,<-a9,f0,f1,f5,f6,f7,f8,f17,f18,f19,f20,f24,f25,f26];(try(refine⟨by first|decide|rfl,?_⟩)))|(refine aK ?_;simp(disch:=omega) [fj,gW,e4,<-aU,<-a9,f0,f1,f5,f6,f7,f8,f17,f18,f19,f20,f24,f25,f26]));(try(refine al [0,1,5,6,7,8,17,18,19,20,24,25,26] ?_;intro F;simp only[ak];intro U ab ah ag ar ao bx bP dX bO cL ch c_;simp(disch:=omega) [fj,gW,e4,<-aU,<-a9,f0,f1,f5,f6,f7,f8,f17,f18,f19,f20,f24,f25,f26] at U ab ah ag ar ao bx bP dX bO cL ch c_;clear f0 f1 f5 f6 f7 f8 f17 f18 f19 f20 f24 f25 f26;have f0:=U;have f1:=ab;have f5:=ah;have f6:=ag;have f7:=ar;have f8:=ao;have f17:=bx;have f18:=bP;have f19:=dX;have f20:=bO;have f24:=cL;have f25:=ch;have f26:=c_;clear U ab ah ag ar ao bx bP dX bO cL ch c_)))
      | (refine aJ _ (by simp(disch:=omega) [fj,gW,e4,<-aU,<-a9,f0,f1,f5,f6,f7,f8,f17,f18,f19,f20,f24,f25,f26];rfl) (fun I=>?_) (fun I=>?_)<;>first|(exfalso;simp(disch:=omega) [fj,gW,e4,<-aU,<-a9] at I;done)|(exfalso;simp at I;omega)|(simp at I))
      | ((first|refine aH ?_|refine aN ?_);simp(disch:=omega) [fj,gW,e4,<-aU,<-a9,f0,f1,f5,f6,f7,f8,f17,f18,f19,f20,f24,f25,f26]))
     refine o8 B (fun k s=>I2 a b A B i x k s/\s.F 26=bp k) (I2 a b A B i x B) (fun _=>False) ?_ ?_ ?_ (fun _ _ h=>h.elim)
     · exact ⟨⟨q,o,0,hh,fD,aV,by omega,by simp[aY,fC,Nat.mod_one],f5,f8,V.bump _ _ (by omega)⟩,f26⟩
     · rintro k s lS aI ⟨⟨q,o,c,hh,fD,aV,h7,aY,ev,kp,V⟩,wV⟩
       replace f0:=(aI 0 rfl).trans f0;replace f1:=(aI 1 rfl).trans f1;replace f6:=(aI 6 rfl).trans f6;replace f7:=(aI 7 rfl).trans f7;replace f17:=(aI 17 rfl).trans f17;replace f18:=(aI 18 rfl).trans f18;replace f19:=(aI 19 rfl).trans f19;replace f24:=(aI 24 rfl).trans f24;replace f25:=(aI 25 rfl).trans f25
       clear f5 f8 f26
       have f5:=ev
       have f8:=kp
       have f26:=wV
       refine al [0,1,5,6,7,8,9,10,17,18,19,24,25,26,27] ?_
       intro F
       simp only[ak]
       intro U ab ah ag ar ao aA aB bx bP dX cL ch c_ c5
       try simp[aS,f0,f1,f5,f6,f7,f8,f17,f18,f19,f24,f25,f26] at U ab ah ag ar ao aA aB bx bP dX cL ch c_ c5
       clear f0 f1 f5 f6 f7 f8 f17 f18 f19 f24 f25 f26
       have f0:=U
       have f1:=ab
       have f5:=ah
       have f6:=ag
       have f7:=ar
       have f8:=ao
       have f9:=aA
       have f10:=aB
       have f17:=bx
       have f18:=bP
       have f19:=dX
       have f24:=cL
       have f25:=ch
       have f26:=c_
       have f27:=c5
       clear U ab ah ag ar ao aA aB bx bP dX cL ch c_ c5
       by_cases mC:k<B
       · have bj:=au.a5 k
         have mZ:=(k4 (show k<(ai b).length by omega)).symm
         have gH:=gv b k
         have a4:=fD.a5 (i+k)
         have go:=kP (show i+k<o.length by omega)
         generalize gR:a5 (ai b) k=y at*
         generalize qz:a5 o (i+k)=z at*
         have np:=IV av bj
         have mI:x*y+z<18446744073709551616:=by omega
         have q_:c+(x*y+z)<18446744073709551616:=by omega
         have mb:i+k<A+B:=by omega
         have sz:=lq (show 0<o.length by omega)
         have st:=pU o (i+k) ((c+(x*y+z))%4294967296)
         have cD:=V.cells
         have dy:=V.bD
         repeat' (first
          | refine ax ?_
          | ((fail_if_success (refine aQ ?_));(fail_if_success (refine aR ?_));refine aL ?_)
          | ((first|(refine az aM ?_;simp(disch:=omega) [mC,cD,dy,mZ,go,gR,mI,q_,mb,sz,st,<-aU,<-a9,f0,f1,f5,f6,f7,f8,f9,f10,f17,f18,f19,f24,f25,f26,f27];(try(refine⟨by first|decide|rfl,?_⟩)))|(refine aK ?_;simp(disch:=omega) [mC,cD,dy,mZ,go,gR,mI,q_,mb,sz,st,<-aU,<-a9,f0,f1,f5,f6,f7,f8,f9,f10,f17,f18,f19,f24,f25,f26,f27]));(try(refine al [0,1,5,6,7,8,9,10,17,18,19,24,25,26,27] ?_;intro F;simp only[ak];intro U ab ah ag ar ao aA aB bx bP dX cL ch c_ c5;simp(disch:=omega) [mC,cD,dy,mZ,go,gR,mI,q_,mb,sz,st,<-aU,<-a9,f0,f1,f5,f6,f7,f8,f9,f10,f17,f18,f19,f24,f25,f26,f27] at U ab ah ag ar ao aA aB bx bP dX cL ch c_ c5;clear f0 f1 f5 f6 f7 f8 f9 f10 f17 f18 f19 f24 f25 f26 f27;have f0:=U;have f1:=ab;have f5:=ah;have f6:=ag;have f7:=ar;have f8:=ao;have f9:=aA;have f10:=aB;have f17:=bx;have f18:=bP;have f19:=dX;have f24:=cL;have f25:=ch;have f26:=c_;have f27:=c5;clear U ab ah ag ar ao aA aB bx bP dX cL ch c_ c5)))
          | (refine aJ _ (by simp(disch:=omega) [mC,cD,dy,mZ,go,gR,mI,q_,mb,sz,st,<-aU,<-a9,f0,f1,f5,f6,f7,f8,f9,f10,f17,f18,f19,f24,f25,f26,f27];rfl) (fun I=>?_) (fun I=>?_)<;>first|(exfalso;simp(disch:=omega) [mC,cD,dy,mZ,go,gR,mI,q_,mb,sz,st,<-aU,<-a9] at I;done)|(exfalso;simp at I;omega)|(simp at I))
          | ((first|refine aH ?_|refine aN ?_);simp(disch:=omega) [mC,cD,dy,mZ,go,gR,mI,q_,mb,sz,st,<-aU,<-a9,f0,f1,f5,f6,f7,f8,f9,f10,f17,f18,f19,f24,f25,f26,f27]))
         have gE:=nw ((c+(x*y+z))%4294967296) (show i+k<o.length by omega)
         rw[qz,hg] at gE
         have Ch:=IW (B:=4294967296) (q:=(c+(x*y+z))/4294967296) gE (show c+(x*y+z)=x*y+z+c by omega) (Nat.div_add_mod _ _).symm (show val o+aE i*aE k*c=a%aE i*b+aE i*(x*(b%aE k)) from aY)
         refine⟨q,o.set (i+k) ((c+(x*y+z))%4294967296),(c+(x*y+z))/4294967296,by rw[List.length_set];exact hh,nx fD (Nat.mod_lt _ (by decide)),fun j bb=>?_,by omega,?_,f5,f8,V.put _ _ _ (by omega)⟩
         · rw[ou _ _ (by omega),if_neg (by omega)]
           exact aV j bb
         · rw[mT,eQ,<-gH,<-Nat.mul_assoc]
           exact Ch
       · have Ci:k=B:=by omega
         subst Ci
         repeat' (first
          | refine ax ?_
          | ((fail_if_success (refine aQ ?_));(fail_if_success (refine aR ?_));refine aL ?_)
          | ((first|(refine az aM ?_;simp(disch:=omega) [mC,f0,f1,f5,f6,f7,f8,f9,f10,f17,f18,f19,f24,f25,f26,f27];(try(refine⟨by first|decide|rfl,?_⟩)))|(refine aK ?_;simp(disch:=omega) [mC,f0,f1,f5,f6,f7,f8,f9,f10,f17,f18,f19,f24,f25,f26,f27]));(try(refine al [0,1,5,6,7,8,9,10,17,18,19,24,25,26,27] ?_;intro F;simp only[ak];intro U ab ah ag ar ao aA aB bx bP dX cL ch c_ c5;simp(disch:=omega) [mC,f0,f1,f5,f6,f7,f8,f9,f10,f17,f18,f19,f24,f25,f26,f27] at U ab ah ag ar ao aA aB bx bP dX cL ch c_ c5;clear f0 f1 f5 f6 f7 f8 f9 f10 f17 f18 f19 f24 f25 f26 f27;have f0:=U;have f1:=ab;have f5:=ah;have f6:=ag;have f7:=ar;have f8:=ao;have f9:=aA;have f10:=aB;have f17:=bx;have f18:=bP;have f19:=dX;have f24:=cL;have f25:=ch;have f26:=c_;have f27:=c5;clear U ab ah ag ar ao aA aB bx bP dX cL ch c_ c5)))
          | (refine aJ _ (by simp(disch:=omega) [mC,f0,f1,f5,f6,f7,f8,f9,f10,f17,f18,f19,f24,f25,f26,f27];rfl) (fun I=>?_) (fun I=>?_)<;>first|(exfalso;simp(disch:=omega) [mC] at I;done)|(exfalso;simp at I;omega)|(simp at I))
          | ((first|refine aH ?_|refine aN ?_);simp(disch:=omega) [mC,f0,f1,f5,f6,f7,f8,f9,f10,f17,f18,f19,f24,f25,f26,f27]))
         exact ⟨q,o,c,hh,fD,aV,h7,aY,f5,f8,V.bump _ _ (by omega)⟩
     · rintro s aI ⟨q,o,c,hh,fD,aV,h7,aY,ev,kp,V⟩
       rw[Nat.mod_eq_of_lt Cg] at aY
       replace f0:=(aI 0 rfl).trans f0;replace f1:=(aI 1 rfl).trans f1;replace f6:=(aI 6 rfl).trans f6;replace f7:=(aI 7 rfl).trans f7;replace f17:=(aI 17 rfl).trans f17;replace f18:=(aI 18 rfl).trans f18;replace f19:=(aI 19 rfl).trans f19;replace f24:=(aI 24 rfl).trans f24;replace f25:=(aI 25 rfl).trans f25
       clear f5 f8 f26
       have f5:=ev
       have f8:=kp
       refine al [0,1,5,6,7,8,17,18,19] ?_
       intro F
       simp only[ak]
       intro U ab ah ag ar ao bx bP dX
       try simp[aS,f0,f1,f5,f6,f7,f8,f17,f18,f19] at U ab ah ag ar ao bx bP dX
       clear f0 f1 f5 f6 f7 f8 f17 f18 f19
       have f0:=U
       have f1:=ab
       have f5:=ah
       have f6:=ag
       have f7:=ar
       have f8:=ao
       have f17:=bx
       have f18:=bP
       have f19:=dX
       clear U ab ah ag ar ao bx bP dX
       have nH:i+B<A+B:=by omega
       have sz:=lq (show 0<o.length by omega)
       have st:=pU o (i+B) c
       have oy:=kP (show i+B<o.length by omega)
       have cD:=V.cells
       have dy:=V.bD
       repeat' (first
        | refine ax ?_
        | ((fail_if_success (refine aQ ?_));(fail_if_success (refine aR ?_));refine aL ?_)
        | ((first|(refine az aM ?_;simp(disch:=omega) [cD,dy,nH,sz,st,oy,h7,<-aU,<-a9,f0,f1,f5,f6,f7,f8,f17,f18,f19];(try(refine⟨by first|decide|rfl,?_⟩)))|(refine aK ?_;simp(disch:=omega) [cD,dy,nH,sz,st,oy,h7,<-aU,<-a9,f0,f1,f5,f6,f7,f8,f17,f18,f19]));(try(refine al [0,1,5,6,7,8,17,18,19] ?_;intro F;simp only[ak];intro U ab ah ag ar ao bx bP dX;simp(disch:=omega) [cD,dy,nH,sz,st,oy,h7,<-aU,<-a9,f0,f1,f5,f6,f7,f8,f17,f18,f19] at U ab ah ag ar ao bx bP dX;clear f0 f1 f5 f6 f7 f8 f17 f18 f19;have f0:=U;have f1:=ab;have f5:=ah;have f6:=ag;have f7:=ar;have f8:=ao;have f17:=bx;have f18:=bP;have f19:=dX;clear U ab ah ag ar ao bx bP dX)))
        | (refine aJ _ (by simp(disch:=omega) [cD,dy,nH,sz,st,oy,h7,<-aU,<-a9,f0,f1,f5,f6,f7,f8,f17,f18,f19];rfl) (fun I=>?_) (fun I=>?_)<;>first|(exfalso;simp(disch:=omega) [cD,dy,nH,sz,st,oy,h7,<-aU,<-a9] at I;done)|(exfalso;simp at I;omega)|(simp at I))
        | ((first|refine aH ?_|refine aN ?_);simp(disch:=omega) [cD,dy,nH,sz,st,oy,h7,<-aU,<-a9,f0,f1,f5,f6,f7,f8,f17,f18,f19]))
       have gE:=nw c (show i+B<o.length by omega)
       rw[aV (i+B) (by omega),Nat.mul_zero,Nat.add_zero,hg] at gE
       refine⟨q,o.set (i+B) c,by rw[List.length_set];exact hh,nx fD h7,fun j bb=>?_,?_,f5,V.put _ _ _ (by omega)⟩
       · rw[ou _ _ (by omega),if_neg (by omega)]
         exact aV j (by omega)
       · rw[gE,mT,<-uH,Nat.add_mul,aY,Nat.mul_assoc]
   · have k2:i=A:=by omega
     subst k2
     repeat' (first
      | refine ax ?_
      | ((fail_if_success (refine aQ ?_));(fail_if_success (refine aR ?_));refine aL ?_)
      | ((first|(refine az aM ?_;simp(disch:=omega) [fj,f0,f1,f5,f6,f7,f8,f17,f18,f19,f20,f24,f25,f26];(try(refine⟨by first|decide|rfl,?_⟩)))|(refine aK ?_;simp(disch:=omega) [fj,f0,f1,f5,f6,f7,f8,f17,f18,f19,f20,f24,f25,f26]));(try(refine al [0,1,5,6,7,8,17,18,19,20,24,25,26] ?_;intro F;simp only[ak];intro U ab ah ag ar ao bx bP dX bO cL ch c_;simp(disch:=omega) [fj,f0,f1,f5,f6,f7,f8,f17,f18,f19,f20,f24,f25,f26] at U ab ah ag ar ao bx bP dX bO cL ch c_;clear f0 f1 f5 f6 f7 f8 f17 f18 f19 f20 f24 f25 f26;have f0:=U;have f1:=ab;have f5:=ah;have f6:=ag;have f7:=ar;have f8:=ao;have f17:=bx;have f18:=bP;have f19:=dX;have f20:=bO;have f24:=cL;have f25:=ch;have f26:=c_;clear U ab ah ag ar ao bx bP dX bO cL ch c_)))
      | (refine aJ _ (by simp(disch:=omega) [fj,f0,f1,f5,f6,f7,f8,f17,f18,f19,f20,f24,f25,f26];rfl) (fun I=>?_) (fun I=>?_)<;>first|(exfalso;simp(disch:=omega) [fj] at I;done)|(exfalso;simp at I;omega)|(simp at I))
      | ((first|refine aH ?_|refine aN ?_);simp(disch:=omega) [fj,f0,f1,f5,f6,f7,f8,f17,f18,f19,f20,f24,f25,f26]))
     exact ⟨q,o,hh,fD,aV,aY,f5,V.bump _ _ (by omega)⟩
 · rintro s aI ⟨q,o,hh,fD,aV,aY,ev,V⟩
   rw[Nat.mod_eq_of_lt Cf] at aY
   clear f5 f19
   have f5:=ev
   have cD:=V.cells
   have cS:=pR (e:=false) fD (show o.length<=1073741824 by omega)
   rw[aY] at cS
   have fe:=y5 (show o.length<=A+B by omega)
   have kG:=y4 o
   have a6:=qA o
   have hle:A+B<=(cm o).length:=by omega
   refine al [4,5] ?_
   intro F
   simp only[ak]
   intro ad ah
   try simp[aS,f5] at ad ah
   clear f5
   have f4:=ad
   have f5:=ah
   clear ad ah
   rw[show (o.map fun n=>J.int .u32 (Z n))=cm o from rfl] at cS
   repeat' (first
    | refine ax ?_
    | ((fail_if_success (refine aQ ?_));(fail_if_success (refine aR ?_));refine aL ?_)
    | ((first|(refine az aM ?_;simp(disch:=omega) [cD,cS,fe,kG,hle,f4,f5];(try(refine⟨by first|decide|rfl,?_⟩)))|(refine aK ?_;simp(disch:=omega) [cD,cS,fe,kG,hle,f4,f5]));(try(refine al [4,5] ?_;intro F;simp only[ak];intro ad ah;simp(disch:=omega) [cD,cS,fe,kG,hle,f4,f5] at ad ah;clear f4 f5;have f4:=ad;have f5:=ah;clear ad ah)))
    | (refine aJ _ (by simp(disch:=omega) [cD,cS,fe,kG,hle,f4,f5];rfl) (fun I=>?_) (fun I=>?_)<;>first|(exfalso;simp(disch:=omega) [cD,cS,fe,kG,hle] at I;done)|(exfalso;simp at I;omega)|(simp at I))
    | ((first|refine aH ?_|refine aN ?_);simp(disch:=omega) [cD,cS,fe,kG,hle,f4,f5]))
end
section
attribute [local irreducible] cQ
attribute [local simp] ek eL du
noncomputable def Cj:FuncId->Option (List J->Option J):=da [(98,ln),(107,ow)]
theorem I5:∀f T,Cj f=some T->bl Tryz.prog G f T:=dc (by simp only[List.forall_mem_cons];exact ⟨qt,wT,fun _ h=>absurd h (by simp)⟩)
theorem RO:Cj 98=some ln:=rfl
theorem RP:Cj 107=some ow:=rfl
attribute [local simp] RO RP
theorem RQ {a L k n:Nat} (aU:a<aE L) (aI:k<=n):a/aE (min k L)%aE (min n L - min k L)=a%aE n/aE k:=by
 by_cases ae:n<=L
 · rw[Nat.min_eq_left (by omega),Nat.min_eq_left ae,<-Nat.mod_mul_right_div_self,<-hg,show k+(n - k)=n by omega]
 · rw[Nat.min_eq_right (show L<=n by omega),Nat.mod_eq_of_lt (Nat.lt_of_lt_of_le aU (mS (by omega:L<=n)))]
   by_cases h2:k<=L
   · rw[Nat.min_eq_left h2,Nat.mod_eq_of_lt]
     rw[Nat.div_lt_iff_lt_mul (kO k),<-hg,show L - k+k=L by omega]
     exact aU
   · rw[Nat.min_eq_right (by omega),Nat.sub_self,fC,Nat.mod_one,Nat.div_eq_of_lt (Nat.lt_of_lt_of_le aU (mS (by omega)))]
noncomputable def rv:List J->Option J:=cl (fun z:Nat × Nat × Nat=>(ai z.1).length<=1000000000/\z.2.1<=z.2.2/\z.2.2<=1000000000000) (fun z=>[aw z.1,bp z.2.1,bp z.2.2]) (fun z=>aw (z.1%aE z.2.2/aE z.2.1))
theorem w2 (z:Nat × Nat × Nat) (h:(ai z.1).length<=1000000000/\z.2.1<=z.2.2/\z.2.2<=1000000000000) {args:List J} (he:args.map J.loose= [aw z.1,bp z.2.1,bp z.2.2]):rv args=some (aw (z.1%aE z.2.2/aE z.2.1)):=cI (fun z w h=>by first|(simp only[List.cons.injEq,J.int.injEq,J.bool.injEq,J.sl.injEq,bT,bU,bY,bZ,bX,bG,bL,bV,bI,true_and,and_true] at h;simp[h];done)|(simp only[J.agg.injEq,List.cons.injEq,J.int.injEq,J.bool.injEq,J.sl.injEq,bT,bU,bY,bZ,bX,bG,bL,bV,bI,true_and,and_true] at h;simp[h])) z h he
theorem I6:bl Tryz.prog G 147 rv:=by
 refine cJ mixed I5 Hn fun z aV=>?_
 obtain⟨a,k,n⟩:=z
 obtain⟨cZ,aI,aC⟩:=aV
 simp only at cZ aI aC|-
 obtain⟨L,a_⟩:∃L,L=(ai a).length:=⟨_,rfl⟩
 have aU:a<aE L:=c8.1 (by omega)
 have bF:=dW a
 have cS:=pR (e:=true) ((bF.drop (min k L)).take (min n L - min k L)) (by simp;omega)
 rw[PH (bF.drop _),BF bF,du,RQ aU aI,List.map_take,List.map_drop] at cS
 have bz:=um k L
 have b4:=um n L
 have ae:min k L<=min n L:=by omega
 have h2:min n L<=L:=Nat.min_le_right _ _
 generalize a%aE n/aE k=r at*
 generalize an:min k L=i at*
 generalize bb:min n L=j at*
 have aP:((ai a).map fun n=>J.int .u32 (Z n)).all (fun e=>e.cells.length == 1)=true:=by simp[J.cells]
 unfold i147
 refine al [0,1,2,6] fun F=>?_
 simp only[ak]
 intro f0 f1 f2 f6
 simp[a8] at f0 f1 f2 f6
 repeat' (first
  | refine ax ?_
  | ((fail_if_success (refine aQ ?_));(fail_if_success (refine aR ?_));refine aL ?_)
  | ((first|(refine az aM ?_;simp(disch:=omega) [<-a_,an,bb,bz,b4,ae,h2,aP,cS,f0,f1,f2,f6];(try(refine⟨by first|decide|rfl,?_⟩)))|(refine aK ?_;simp(disch:=omega) [<-a_,an,bb,bz,b4,ae,h2,aP,cS,f0,f1,f2,f6]));(try(refine al [0,1,2,6] ?_;intro F;simp only[ak];intro U ab aa ag;simp(disch:=omega) [<-a_,an,bb,bz,b4,ae,h2,aP,cS,f0,f1,f2,f6] at U ab aa ag;clear f0 f1 f2 f6;have f0:=U;have f1:=ab;have f2:=aa;have f6:=ag;clear U ab aa ag)))
  | (refine aJ _ (by simp(disch:=omega) [<-a_,an,bb,bz,b4,ae,h2,aP,cS,f0,f1,f2,f6];rfl) (fun I=>?_) (fun I=>?_)<;>first|(exfalso;simp(disch:=omega) [<-a_,an,bb,bz,b4,ae,h2,aP,cS] at I;done)|(exfalso;simp at I;omega)|(simp at I))
  | ((first|refine aH ?_|refine aN ?_);simp(disch:=omega) [<-a_,an,bb,bz,b4,ae,h2,aP,cS,f0,f1,f2,f6]))
noncomputable def lL:List J->Option J:=cl (fun z:Nat × Nat=>(ai z.1).length<=1000000000/\(ai z.2).length<=1000000000) (fun z=>[aw z.1,aw z.2]) (fun z=>aw (z.1 - z.2))
theorem Ck (z:Nat × Nat) (h:(ai z.1).length<=1000000000/\(ai z.2).length<=1000000000) {args:List J} (he:args.map J.loose= [aw z.1,aw z.2]):lL args=some (aw (z.1 - z.2)):=cI (fun z w h=>by first|(simp only[List.cons.injEq,J.int.injEq,J.bool.injEq,J.sl.injEq,bT,bU,bY,bZ,bX,bG,bL,bV,bI,true_and,and_true] at h;simp[h];done)|(simp only[J.agg.injEq,List.cons.injEq,J.int.injEq,J.bool.injEq,J.sl.injEq,bT,bU,bY,bZ,bX,bG,bL,bV,bI,true_and,and_true] at h;simp[h])) z h he
theorem Cl:bl Tryz.prog G 152 lL:=by
 refine cJ mixed I5 Hq fun z aV=>?_
 obtain⟨a,b⟩:=z
 obtain⟨cZ,cm⟩:=aV
 simp only at cZ cm|-
 have t:=yR (a:=a) (b:=b) (e:=false) (e':=false) cZ cm
 unfold i152
 by_cases h:a<b
 · rw[if_pos h] at t
   have bM:a - b=0:=by omega
   rw[bM]
   have b7:=eX
   refine al [0,1,4,5] fun F=>?_
   simp only[ak]
   intro f0 f1 f4 f5
   simp[a8] at f0 f1 f4 f5
   repeat' (first
    | refine ax ?_
    | ((fail_if_success (refine aQ ?_));(fail_if_success (refine aR ?_));refine aL ?_)
    | ((first|(refine az aM ?_;simp(disch:=omega) [t,f0,f1,f4,f5];(try(refine⟨by first|decide|rfl,?_⟩)))|(refine aK ?_;simp(disch:=omega) [t,f0,f1,f4,f5]));(try(refine al [0,1,4,5] ?_;intro F;simp only[ak];intro U ab ad ah;simp(disch:=omega) [t,f0,f1,f4,f5] at U ab ad ah;clear f0 f1 f4 f5;have f0:=U;have f1:=ab;have f4:=ad;have f5:=ah;clear U ab ad ah)))
    | (refine aJ _ (by simp(disch:=omega) [t,f0,f1,f4,f5];rfl) (fun I=>?_) (fun I=>?_)<;>first|(exfalso;simp(disch:=omega) [t] at I;done)|(exfalso;simp at I;omega)|(simp at I))
    | ((first|refine aH ?_|refine aN ?_);simp(disch:=omega) [t,f0,f1,f4,f5,b7]))
 · rw[if_neg h] at t
   generalize a - b=c at*
   refine al [0,1,4,5] fun F=>?_
   simp only[ak]
   intro f0 f1 f4 f5
   simp[a8] at f0 f1 f4 f5
   repeat' (first
    | refine ax ?_
    | ((fail_if_success (refine aQ ?_));(fail_if_success (refine aR ?_));refine aL ?_)
    | ((first|(refine az aM ?_;simp(disch:=omega) [t,f0,f1,f4,f5];(try(refine⟨by first|decide|rfl,?_⟩)))|(refine aK ?_;simp(disch:=omega) [t,f0,f1,f4,f5]));(try(refine al [0,1,4,5] ?_;intro F;simp only[ak];intro U ab ad ah;simp(disch:=omega) [t,f0,f1,f4,f5] at U ab ad ah;clear f0 f1 f4 f5;have f0:=U;have f1:=ab;have f4:=ad;have f5:=ah;clear U ab ad ah)))
    | (refine aJ _ (by simp(disch:=omega) [t,f0,f1,f4,f5];rfl) (fun I=>?_) (fun I=>?_)<;>first|(exfalso;simp(disch:=omega) [t] at I;done)|(exfalso;simp at I;omega)|(simp at I))
    | ((first|refine aH ?_|refine aN ?_);simp(disch:=omega) [t,f0,f1,f4,f5]))
theorem Cm:∀z w:Nat × Nat,(fun z:Nat × Nat=>[aw z.1,aw z.2]) z=(fun z:Nat × Nat=>[aw z.1,aw z.2]) w->(fun z:Nat × Nat=>aw (z.1*z.2)) z=(fun z:Nat × Nat=>aw (z.1*z.2)) w:=fun z w h=>by simp only at h|-;first|(simp only[List.cons.injEq,J.int.injEq,J.bool.injEq,J.sl.injEq,bT,bU,bY,bZ,bX,bG,bL,bV,bI,true_and,and_true] at h;simp[h];done)|(simp only[J.agg.injEq,List.cons.injEq,J.int.injEq,J.bool.injEq,J.sl.injEq,bT,bU,bY,bZ,bX,bG,bL,bV,bI,true_and,and_true] at h;simp[h])
noncomputable def sW:List J->Option J:=cl (fun z:Nat × Nat=>(ai z.1).length<=1000000/\(ai z.2).length<=1000000) (fun z:Nat × Nat=>[aw z.1,aw z.2]) (fun z:Nat × Nat=>aw (z.1*z.2))
theorem I7 (z:Nat × Nat) (h:(ai z.1).length<=1000000/\(ai z.2).length<=1000000) {args:List J} (he:args.map J.loose= [aw z.1,aw z.2]):sW args=some (aw (z.1*z.2)):=cI Cm z h he
noncomputable def uL (N:Nat):List J->Option J:=cl (fun z:Nat × Nat=>((ai z.1).length<=1000000/\(ai z.2).length<=1000000)/\(max (ai z.1).length (ai z.2).length)<N) (fun z:Nat × Nat=>[aw z.1,aw z.2]) (fun z:Nat × Nat=>aw (z.1*z.2))
theorem Cn {N:Nat} (z:Nat × Nat) (h:((ai z.1).length<=1000000/\(ai z.2).length<=1000000)/\(max (ai z.1).length (ai z.2).length)<N) {args:List J} (he:args.map J.loose= [aw z.1,aw z.2]):uL N args=some (aw (z.1*z.2)):=cI Cm z h he
theorem RR (h:∀N,bl Tryz.prog G 133 (uL N)->bl Tryz.prog G 133 (uL (N+1))):bl Tryz.prog G 133 sW:=F3 Cm (fun z:Nat × Nat=>max (ai z.1).length (ai z.2).length) h
noncomputable def sX (N:Nat):FuncId->Option (List J->Option J):=da [(133,uL N),(134,uK),(147,rv),(152,lL),(80,hi),(93,lY)]
theorem RS {N:Nat} (h:bl Tryz.prog G 133 (uL N)):∀f T,sX N f=some T->bl Tryz.prog G f T:=dc (by simp only[List.forall_mem_cons];exact ⟨h,I4,I6,Cl,sR,wU,fun _ h=>absurd h (by simp)⟩)
theorem RT (N:Nat):sX N 133=some (uL N):=rfl
theorem RU (N:Nat):sX N 134=some uK:=rfl
theorem RV (N:Nat):sX N 147=some rv:=rfl
theorem RW (N:Nat):sX N 152=some lL:=rfl
theorem RX (N:Nat):sX N 80=some hi:=rfl
theorem RY (N:Nat):sX N 93=some lY:=rfl
attribute [local simp] RT RU RV RW RX RY
theorem RZ {P a0 a1 b0 b1:Nat}:a0*b0+(((a0+a1)*(b0+b1) -(a0*b0+a1*b1))*P+a1*b1*(P*P))=(a0+P*a1)*(b0+P*b1):=by
 have e:(a0+a1)*(b0+b1)=(a0*b0+a1*b1)+(a0*b1+a1*b0):=by grind
 rw[e,Nat.add_sub_cancel_left];grind
theorem I8:bl Tryz.prog G 133 sW:=by
 refine RR fun N b_=>?_
 refine cJ mixed (RS b_) G' fun z aV=>?_
 obtain⟨a,b⟩:=z
 obtain⟨⟨cZ,cm⟩,eO⟩:=aV
 simp only at cZ cm eO|-
 obtain⟨L,a_⟩:∃L,L=(ai a).length:=⟨_,rfl⟩
 obtain⟨M,eB⟩:∃M,M=(ai b).length:=⟨_,rfl⟩
 obtain⟨n,aC⟩:∃n,n=max L M:=⟨_,rfl⟩
 have bz:=yz L M
 have b4:=um L M
 rw[<-aC] at bz
 rw[<-a_] at eO cZ
 rw[<-eB] at eO cm
 have aU:a<aE n:=c8.1 (by omega)
 have a9:b<aE n:=c8.1 (by omega)
 unfold i133
 by_cases fM:min L M<4
 · have t:=I3 (a,b) ⟨by simp only;omega,by simp only;omega⟩ (args:=[aw a,aw b]) (by simp)
   simp only at t
   generalize a*b=c at*
   refine al [0,1,4,5,6,7,8,9,10,11,12,13,24] fun F=>?_
   simp only[ak]
   intro f0 f1 f4 f5 f6 f7 f8 f9 f10 f11 f12 f13 f24
   simp[a8] at f0 f1 f4 f5 f6 f7 f8 f9 f10 f11 f12 f13 f24
   repeat' (first
    | refine ax ?_
    | ((fail_if_success (refine aQ ?_));(fail_if_success (refine aR ?_));refine aL ?_)
    | ((first|(refine az aM ?_;simp(disch:=omega) [<-a_,<-eB,bz,b4,fM,t,f0,f1,f4,f5,f6,f7,f8,f9,f10,f11,f12,f13,f24];(try(refine⟨by first|decide|rfl,?_⟩)))|(refine aK ?_;simp(disch:=omega) [<-a_,<-eB,bz,b4,fM,t,f0,f1,f4,f5,f6,f7,f8,f9,f10,f11,f12,f13,f24]));(try(refine al [0,1,4,5,6,7,8,9,10,11,12,13,24] ?_;intro F;simp only[ak];intro U ab ad ah ag ar ao aA aB bA aX aZ cL;simp(disch:=omega) [<-a_,<-eB,bz,b4,fM,t,f0,f1,f4,f5,f6,f7,f8,f9,f10,f11,f12,f13,f24] at U ab ad ah ag ar ao aA aB bA aX aZ cL;clear f0 f1 f4 f5 f6 f7 f8 f9 f10 f11 f12 f13 f24;have f0:=U;have f1:=ab;have f4:=ad;have f5:=ah;have f6:=ag;have f7:=ar;have f8:=ao;have f9:=aA;have f10:=aB;have f11:=bA;have f12:=aX;have f13:=aZ;have f24:=cL;clear U ab ad ah ag ar ao aA aB bA aX aZ cL)))
    | (refine aJ _ (by simp(disch:=omega) [<-a_,<-eB,bz,b4,fM,t,f0,f1,f4,f5,f6,f7,f8,f9,f10,f11,f12,f13,f24];rfl) (fun I=>?_) (fun I=>?_)<;>first|(exfalso;simp(disch:=omega) [<-a_,<-eB,bz,b4,fM,t] at I;done)|(exfalso;simp at I;omega)|(simp at I))
    | ((first|refine aH ?_|refine aN ?_);simp(disch:=omega) [<-a_,<-eB,bz,b4,fM,t,f0,f1,f4,f5,f6,f7,f8,f9,f10,f11,f12,f13,f24]))
 · obtain⟨k,aI⟩:∃k,k=(n+1)/2:=⟨_,rfl⟩
   have mC:k<n:=by omega
   have md:∀x,x<aE n->rv [aw x,bp 0,bp k]=some (aw (x%aE k)):=fun x av=>by
    have:=w2 (x,0,k) ⟨by simp only;have:=c8.2 av;omega,Nat.zero_le _,by simp only;omega⟩ (args:=[aw x,bp 0,bp k]) (by simp)
    simpa[fC] using this
   have dO:∀x,x<aE n->rv [aw x,bp k,bp n]=some (aw (x/aE k)):=fun x av=>by
    have:=w2 (x,k,n) ⟨by simp only;have:=c8.2 av;omega,by simp only;omega,by simp only;omega⟩ (args:=[aw x,bp k,bp n]) (by simp)
    simpa[Nat.mod_eq_of_lt av] using this
   have uM:=md a aU
   have sY:=dO a aU
   have uN:=md b a9
   have sZ:=dO b a9
   have gI:∀x,(ai (x%aE k)).length<=k:=fun x=>c8.2 (Nat.mod_lt _ (kO k))
   have ck:∀x,x<aE n->(ai (x/aE k)).length<=n - k:=fun x av=>c8.2 (by
    rw[Nat.div_lt_iff_lt_mul (kO k),<-hg,show n - k+k=n by omega];exact av)
   have ZG:=gI a
   have ZH:=ck a aU
   have ZI:=gI b
   have ZJ:=ck b a9
   have g2:a*b=(a%aE k+aE k*(a/aE k))*(b%aE k+aE k*(b/aE k)):=by rw[Nat.mod_add_div,Nat.mod_add_div]
   rw[g2]
   generalize a%aE k=a0 at*
   generalize a/aE k=a1 at*
   generalize b%aE k=b0 at*
   generalize b/aE k=b1 at*
   have ZK:=k5 a0 a1
   have ZL:=k5 b0 b1
   have ZM:=hC a0 b0
   have w3:=hC a1 b1
   have ls:=hC (a0+a1) (b0+b1)
   have lt:=k5 (a0*b0) (a1*b1)
   have lm:=f_ (Nat.sub_le ((a0+a1)*(b0+b1)) (a0*b0+a1*b1))
   have fin:=RZ (P:=2^(32*k)) (a0:=a0) (a1:=a1) (b0:=b0) (b1:=b1)
   rw[<-Nat.pow_add,show 32*k+32*k=64*k by omega] at fin
   have R0:(a0+2^(32*k)*a1)*(b0+2^(32*k)*b1)=(a0+aE k*a1)*(b0+aE k*b1):=by rw[ll]
   rw[R0] at fin
   have t1:=Cn (N:=N) (a0,b0) ⟨⟨by simp only;omega,by simp only;omega⟩,by simp only;omega⟩ (args:=[aw a0,aw b0]) (by simp)
   have t2:=Cn (N:=N) (a1,b1) ⟨⟨by simp only;omega,by simp only;omega⟩,by simp only;omega⟩ (args:=[aw a1,aw b1]) (by simp)
   have t3:=Cn (N:=N) (a0+a1,b0+b1) ⟨⟨by simp only;omega,by simp only;omega⟩,by simp only;omega⟩ (args:=[aw (a0+a1),aw (b0+b1)]) (by simp)
   have s1:=ny (a:=a0) (b:=a1) (e:=false) (e':=false) (by omega) (by omega)
   have s2:=ny (a:=b0) (b:=b1) (e:=false) (e':=false) (by omega) (by omega)
   have b3:=ny (a:=a0*b0) (b:=a1*b1) (e:=false) (e':=false) (by omega) (by omega)
   have ed:=Ck ((a0+a1)*(b0+b1),a0*b0+a1*b1) ⟨by simp only;omega,by simp only;omega⟩ (args:=[aw ((a0+a1)*(b0+b1)),aw (a0*b0+a1*b1)]) (by simp)
   simp only at t1 t2 t3 ed
   generalize (a0+a1)*(b0+b1) -(a0*b0+a1*b1)=mid at*
   have ca:=rq (a:=mid) (n:=32*k) (e:=false) (by omega) (by omega)
   have hk:=rq (a:=a1*b1) (n:=64*k) (e:=false) (by omega) (by omega)
   have D5:=hC mid (2^(32*k))
   have Mx:=hC (a1*b1) (2^(64*k))
   have ZN:(ai (2^(32*k))).length<=k+1:=c8.2 (by rw[<-ll,eQ];have:=kO k;omega)
   have ZO:(ai (2^(64*k))).length<=2*k+1:=c8.2 (by rw[show 64*k=32*(2*k) by omega,<-ll,eQ];have:=kO (2*k);omega)
   have k7:=ny (a:=mid*2^(32*k)) (b:=a1*b1*2^(64*k)) (e:=false) (e':=false) (by omega) (by omega)
   have se:=k5 (mid*2^(32*k)) (a1*b1*2^(64*k))
   have hl:=ny (a:=a0*b0) (b:=mid*2^(32*k)+a1*b1*2^(64*k)) (e:=false) (e':=false) (by omega) (by omega)
   rw[fin] at hl
   generalize (a0+aE k*a1)*(b0+aE k*b1)=c at*
   generalize mid*2^(32*k)+a1*b1*2^(64*k)=cV at*
   generalize mid*2^(32*k)=cY at*
   generalize a1*b1*2^(64*k)=dF at*
   generalize a0*b0+a1*b1=dK at*
   generalize (a0+a1)*(b0+b1)=ij at*
   generalize a0*b0=ik at*
   generalize a1*b1=mw at*
   generalize a0+a1=me at*
   generalize b0+b1=ZP at*
   have bK:IntKind.i64.wrap (Z 32*Z k)=Z (32*k):=sB (by omega)
   have cr:IntKind.i64.wrap (Z 64*Z k)=Z (64*k):=sB (by omega)
   have eP:(n+1)/2=k:=aI.symm
   refine al [0,1,4,5,6,7,8,9,10,11,12,13,24] fun F=>?_
   simp only[ak]
   intro f0 f1 f4 f5 f6 f7 f8 f9 f10 f11 f12 f13 f24
   simp[a8] at f0 f1 f4 f5 f6 f7 f8 f9 f10 f11 f12 f13 f24
   repeat' (first
    | refine ax ?_
    | ((fail_if_success (refine aQ ?_));(fail_if_success (refine aR ?_));refine aL ?_)
    | ((first|(refine az aM ?_;simp(disch:=omega) [<-a_,<-eB,bz,b4,fM,bK,cr,eP,uM,sY,uN,sZ,t1,t2,t3,s1,s2,b3,ed,ca,hk,k7,hl,f0,f1,f4,f5,f6,f7,f8,f9,f10,f11,f12,f13,f24];(try(refine⟨by first|decide|rfl,?_⟩)))|(refine aK ?_;simp(disch:=omega) [<-a_,<-eB,bz,b4,fM,bK,cr,eP,uM,sY,uN,sZ,t1,t2,t3,s1,s2,b3,ed,ca,hk,k7,hl,f0,f1,f4,f5,f6,f7,f8,f9,f10,f11,f12,f13,f24]));(try(refine al [0,1,4,5,6,7,8,9,10,11,12,13,24] ?_;intro F;simp only[ak];intro U ab ad ah ag ar ao aA aB bA aX aZ cL;simp(disch:=omega) [<-a_,<-eB,bz,b4,fM,bK,cr,eP,uM,sY,uN,sZ,t1,t2,t3,s1,s2,b3,ed,ca,hk,k7,hl,f0,f1,f4,f5,f6,f7,f8,f9,f10,f11,f12,f13,f24] at U ab ad ah ag ar ao aA aB bA aX aZ cL;clear f0 f1 f4 f5 f6 f7 f8 f9 f10 f11 f12 f13 f24;have f0:=U;have f1:=ab;have f4:=ad;have f5:=ah;have f6:=ag;have f7:=ar;have f8:=ao;have f9:=aA;have f10:=aB;have f11:=bA;have f12:=aX;have f13:=aZ;have f24:=cL;clear U ab ad ah ag ar ao aA aB bA aX aZ cL)))
    | (refine aJ _ (by simp(disch:=omega) [<-a_,<-eB,bz,b4,fM,bK,cr,eP,uM,sY,uN,sZ,t1,t2,t3,s1,s2,b3,ed,ca,hk,k7,hl,f0,f1,f4,f5,f6,f7,f8,f9,f10,f11,f12,f13,f24];rfl) (fun I=>?_) (fun I=>?_)<;>first|(exfalso;simp(disch:=omega) [<-a_,<-eB,bz,b4,fM,bK,cr,eP,uM,sY,uN,sZ,t1,t2,t3,s1,s2,b3,ed,ca,hk,k7,hl] at I;done)|(exfalso;simp at I;omega)|(simp at I))
    | ((first|refine aH ?_|refine aN ?_);simp(disch:=omega) [<-a_,<-eB,bz,b4,fM,bK,cr,eP,uM,sY,uN,sZ,t1,t2,t3,s1,s2,b3,ed,ca,hk,k7,hl,f0,f1,f4,f5,f6,f7,f8,f9,f10,f11,f12,f13,f24]))
end
section
attribute [local irreducible] cQ
attribute [local simp] ek eL du
noncomputable def y6:FuncId->Option (List J->Option J):=da [(98,ln),(107,ow),(152,lL)]
theorem I9:∀f T,y6 f=some T->bl Tryz.prog G f T:=dc (by simp only[List.forall_mem_cons];exact ⟨qt,wT,Cl,fun _ h=>absurd h (by simp)⟩)
theorem R1:y6 98=some ln:=rfl
theorem R2:y6 107=some ow:=rfl
theorem R3:y6 152=some lL:=rfl
attribute [local simp] R1 R2 R3
def I_ (a L m:Nat) (s:bg):Prop:=∃q o r,o.length=L/\Small o/\(∀j,j<m->a5 o j=0)/\r<3/\3*val o+aE m*r=aE m*(a/aE m)/\s.F 3= .ref q 0 L L/\s.F 4=e3 r/\fy s.h q o
theorem R4 {o o' P B y v q r c d:Nat} (aY:o'+P*y=o+P*v) (bj:y=0) (h:3*o+P*B*c=P*B*q) (bw:c*B+d=3*v+r):3*o'+P*r=P*(d+B*q):=by
 subst bj
 have e:P*(c*B+d)=P*(3*v+r):=by rw[bw]
 grind
theorem I' {r x:Nat} (av:x<4294967296):r*4294967296|||x=r*4294967296+x:=by
 have e:(4294967296:Nat)=2^32:=by decide
 rw[e] at av|-
 rw[Nat.mul_comm,Nat.two_pow_add_eq_or_of_lt av]
theorem R5 {a o m r x:Nat} (bf:r<3) (av:x<4294967296) (e4:x=a/aE m%4294967296) (aY:3*o+aE (m+1)*r=aE (m+1)*(a/aE (m+1))):
 ∃R,r*4294967296=R/\R|||x=R+x/\R+x<18446744073709551616/\(R+x)/3<4294967296/\(R+x)/3<18446744073709551616/\
  ∀o',o'+aE m*0=o+aE m*((R+x)/3)->3*o'+aE m*((R+x)%3)=aE m*(a/aE m):=by
 refine⟨r*4294967296,rfl,I' av,by omega,by omega,by omega,fun o' a4=>?_⟩
 · rw[eQ] at aY
   have:=R4 a4 rfl aY (show r*4294967296+x=3*((r*4294967296+x)/3)+(r*4294967296+x)%3 by omega)
   rw[this,e4,<-eQ,rh,Nat.mod_add_div]
theorem lZ:(Z 0<=(-1:Int))=False:=eq_false (by decide)
theorem l0:(Z 0<(3:Int))=True:=eq_true (by decide)
theorem l1:(Z 1<(3:Int))=True:=eq_true (by decide)
theorem l2:(Z 2<(3:Int))=True:=eq_true (by decide)
noncomputable def s0:List J->Option J:=cl (fun z:Nat=>(ai z).length<=100000000/\z%3=0) (fun z=>[aw z]) (fun z=>aw (z/3))
theorem R6 (z:Nat) (h:(ai z).length<=100000000/\z%3=0) {args:List J} (he:args.map J.loose= [aw z]):s0 args=some (aw (z/3)):=cI (fun z w h=>by first|(simp only[List.cons.injEq,J.int.injEq,J.bool.injEq,J.sl.injEq,bT,bU,bY,bZ,bX,bG,bL,bV,bI,true_and,and_true] at h;simp[h];done)|(simp only[J.agg.injEq,List.cons.injEq,J.int.injEq,J.bool.injEq,J.sl.injEq,bT,bU,bY,bZ,bX,bG,bL,bV,bI,true_and,and_true] at h;simp[h])) z h he
theorem R7:bl Tryz.prog G 153 s0:=by
 refine cJ mixed I9 Hr fun a aV=>?_
 obtain⟨cZ,aO⟩:=aV
 have bF:=dW a
 obtain⟨L,a_⟩:∃L,L=(ai a).length:=⟨_,rfl⟩
 have aU:a<aE L:=c8.1 (by omega)
 have a2:Z L*4<=140737488355328:=by simp only[Z];omega
 have g4:IntKind.i64.wrap (Z L - Z 1)=lK L:=nb (by omega)
 unfold i153
 refine al [0,2,3,4,5,13] fun F=>?_
 simp only[ak]
 intro f0 f2 f3 f4 f5 f13
 simp[a8] at f0 f2 f3 f4 f5 f13
 repeat' (first
  | refine ax ?_
  | ((fail_if_success (refine aQ ?_));(fail_if_success (refine aR ?_));refine aL ?_)
  | ((first|(refine az aM ?_;simp(disch:=omega) [<-a_,a2,g4,h6,f0,f2,f3,f4,f5,f13];(try(refine⟨by first|decide|rfl,?_⟩)))|(refine aK ?_;simp(disch:=omega) [<-a_,a2,g4,h6,f0,f2,f3,f4,f5,f13]));(try(refine al [0,2,3,4,5,13] ?_;intro F;simp only[ak];intro U aa af ad ah aZ;simp(disch:=omega) [<-a_,a2,g4,h6,f0,f2,f3,f4,f5,f13] at U aa af ad ah aZ;clear f0 f2 f3 f4 f5 f13;have f0:=U;have f2:=aa;have f3:=af;have f4:=ad;have f5:=ah;have f13:=aZ;clear U aa af ad ah aZ)))
  | (refine aJ _ (by simp(disch:=omega) [<-a_,a2,g4,h6,f0,f2,f3,f4,f5,f13];rfl) (fun I=>?_) (fun I=>?_)<;>first|(exfalso;simp(disch:=omega) [<-a_,a2,g4,h6] at I;done)|(exfalso;simp at I;omega)|(simp at I))
  | ((first|refine aH ?_|refine aN ?_);simp(disch:=omega) [<-a_,a2,g4,h6,f0,f2,f3,f4,f5,f13]))
 refine na (fun m s=>m<=L/\I_ a L m s/\s.F 5= .int .i64 (lK m)) (I_ a L 0) (fun _=>False) L ?_ ?_ ?_ (fun _ _ h=>h.elim)
 · refine⟨Nat.le_refl _,⟨_,List.replicate L 0,0,by simp,qs _,fun j _=>wN _ _,by decide,by simp[sG,Nat.div_eq_of_lt aU],f3,f4,⟨by simp[aG],by simp,by simp⟩⟩,f5⟩
 · rintro m s aI ⟨hm,⟨q,o,r,hh,fD,aV,bf,aY,eS,kE,V⟩,ev⟩
   replace f0:=(aI 0 rfl).trans f0
   clear f3 f4 f5
   have f3:=eS
   have f4:=kE
   have f5:=ev
   refine al [0,3,4,5,13] ?_
   intro F
   simp only[ak]
   intro U af ad ah aZ
   try simp[aS,f0,f3,f4,f5] at U af ad ah aZ
   clear f0 f3 f4 f5
   have f0:=U
   have f3:=af
   have f4:=ad
   have f5:=ah
   have f13:=aZ
   clear U af ad ah aZ
   cases m with
   | zero=>
     rw[sJ] at f5
     repeat' (first
      | refine ax ?_
      | ((fail_if_success (refine aQ ?_));(fail_if_success (refine aR ?_));refine aL ?_)
      | ((first|(refine az aM ?_;simp(disch:=omega) [lZ,f0,f3,f4,f5,f13];(try(refine⟨by first|decide|rfl,?_⟩)))|(refine aK ?_;simp(disch:=omega) [lZ,f0,f3,f4,f5,f13]));(try(refine al [0,3,4,5,13] ?_;intro F;simp only[ak];intro U af ad ah aZ;simp(disch:=omega) [lZ,f0,f3,f4,f5,f13] at U af ad ah aZ;clear f0 f3 f4 f5 f13;have f0:=U;have f3:=af;have f4:=ad;have f5:=ah;have f13:=aZ;clear U af ad ah aZ)))
      | (refine aJ _ (by simp(disch:=omega) [lZ,f0,f3,f4,f5,f13];rfl) (fun I=>?_) (fun I=>?_)<;>first|(exfalso;simp(disch:=omega) [lZ] at I;done)|(exfalso;simp at I;omega)|(simp at I))
      | ((first|refine aH ?_|refine aN ?_);simp(disch:=omega) [lZ,f0,f3,f4,f5,f13]))
     exact ⟨q,o,r,hh,fD,aV,bf,aY,f3,f4,V.bump _ _ (by omega)⟩
   | succ m=>
     rw[uo] at f5
     have av:=bF.a5 m
     have gW:=(k4 (show m<(ai a).length by omega)).symm
     have uH:=gv a m
     have go:=kP (show m<o.length by omega)
     have sz:=lq (show 0<o.length by omega)
     generalize e4:a5 (ai a) m=x at*
     obtain⟨R,sl,eD,nC,pQ,uO,sL⟩:=R5 bf av uH aY
     have st:=pU o m ((R+x)/3)
     have cD:=V.cells
     have dy:=V.bD
     have g4:IntKind.i64.wrap (Z m - Z 1)=lK m:=nb (by omega)
     have rm:m<L:=by omega
     clear aY uH
     repeat' (first
      | refine ax ?_
      | ((fail_if_success (refine aQ ?_));(fail_if_success (refine aR ?_));refine aL ?_)
      | ((first|(refine az aM ?_;simp(disch:=omega) [cD,dy,gW,go,e4,sl,eD,nC,uO,pQ,sz,st,g4,rm,<-a_,f0,f3,f4,f5,f13];(try(refine⟨by first|decide|rfl,?_⟩)))|(refine aK ?_;simp(disch:=omega) [cD,dy,gW,go,e4,sl,eD,nC,uO,pQ,sz,st,g4,rm,<-a_,f0,f3,f4,f5,f13]));(try(refine al [0,3,4,5,13] ?_;intro F;simp only[ak];intro U af ad ah aZ;simp(disch:=omega) [cD,dy,gW,go,e4,sl,eD,nC,uO,pQ,sz,st,g4,rm,<-a_,f0,f3,f4,f5,f13] at U af ad ah aZ;clear f0 f3 f4 f5 f13;have f0:=U;have f3:=af;have f4:=ad;have f5:=ah;have f13:=aZ;clear U af ad ah aZ)))
      | (refine aJ _ (by simp(disch:=omega) [cD,dy,gW,go,e4,sl,eD,nC,uO,pQ,sz,st,g4,rm,<-a_,f0,f3,f4,f5,f13];rfl) (fun I=>?_) (fun I=>?_)<;>first|(exfalso;simp(disch:=omega) [cD,dy,gW,go,e4,sl,eD,nC,uO,pQ,sz,st,g4,rm,<-a_] at I;done)|(exfalso;simp at I;omega)|(simp at I))
      | ((first|refine aH ?_|refine aN ?_);simp(disch:=omega) [cD,dy,gW,go,e4,sl,eD,nC,uO,pQ,sz,st,g4,rm,<-a_,f0,f3,f4,f5,f13]))
     have gE:=nw ((R+x)/3) (show m<o.length by omega)
     rw[aV m (by omega)] at gE
     refine⟨m,Nat.lt_succ_self m,by omega,⟨q,o.set m ((R+x)/3),(R+x)%3,by rw[List.length_set];exact hh,nx fD pQ,fun j bb=>?_,by omega,sL _ gE,f3,f4,V.put _ _ _ (by omega)⟩,rfl⟩
     · rw[ou _ _ (by omega),if_neg (by omega)]
       exact aV j (by omega)
 · rintro s aI ⟨q,o,r,hh,fD,aV,bf,aY,eS,kE,V⟩
   rw[fC,Nat.div_one] at aY
   have mq:val o=a/3:=by omega
   clear f3 f4 f5
   have f3:=eS
   have cD:=V.cells
   have cS:=pR (e:=false) fD (show o.length<=1073741824 by omega)
   rw[mq] at cS
   have fe:=y5 (show o.length<=L by omega)
   have kG:=y4 o
   have a6:=qA o
   have hle:L<=(cm o).length:=by omega
   refine al [2,3] ?_
   intro F
   simp only[ak]
   intro aa af
   try simp[aS,f3] at aa af
   clear f3
   have f2:=aa
   have f3:=af
   clear aa af
   rw[show (o.map fun n=>J.int .u32 (Z n))=cm o from rfl] at cS
   repeat' (first
    | refine ax ?_
    | ((fail_if_success (refine aQ ?_));(fail_if_success (refine aR ?_));refine aL ?_)
    | ((first|(refine az aM ?_;simp(disch:=omega) [cD,cS,fe,kG,hle,f2,f3];(try(refine⟨by first|decide|rfl,?_⟩)))|(refine aK ?_;simp(disch:=omega) [cD,cS,fe,kG,hle,f2,f3]));(try(refine al [2,3] ?_;intro F;simp only[ak];intro aa af;simp(disch:=omega) [cD,cS,fe,kG,hle,f2,f3] at aa af;clear f2 f3;have f2:=aa;have f3:=af;clear aa af)))
    | (refine aJ _ (by simp(disch:=omega) [cD,cS,fe,kG,hle,f2,f3];rfl) (fun I=>?_) (fun I=>?_)<;>first|(exfalso;simp(disch:=omega) [cD,cS,fe,kG,hle] at I;done)|(exfalso;simp at I;omega)|(simp at I))
    | ((first|refine aH ?_|refine aN ?_);simp(disch:=omega) [cD,cS,fe,kG,hle,f2,f3]))
noncomputable def y7:List J->Option J:=cl (fun z:Nat × Nat=>(ai z.1).length<=1000000000/\(ai z.2).length<=1000000000) (fun z=>[aw z.1,aw z.2]) (fun z=> .cb [aw (if z.1<z.2 then z.2 - z.1 else z.1 - z.2),.bool (decide (z.1<z.2))])
theorem R8 (z:Nat × Nat) (h:(ai z.1).length<=1000000000/\(ai z.2).length<=1000000000) {args:List J} (he:args.map J.loose= [aw z.1,aw z.2]):y7 args=some (.cb [aw (if z.1<z.2 then z.2 - z.1 else z.1 - z.2),.bool (decide (z.1<z.2))]):=cI (fun z w h=>by first|(simp only[List.cons.injEq,J.int.injEq,J.bool.injEq,J.sl.injEq,bT,bU,bY,bZ,bX,bG,bL,bV,bI,true_and,and_true] at h;simp[h];done)|(simp only[J.agg.injEq,List.cons.injEq,J.int.injEq,J.bool.injEq,J.sl.injEq,bT,bU,bY,bZ,bX,bG,bL,bV,bI,true_and,and_true] at h;simp[h])) z h he
theorem R9:bl Tryz.prog G 166 y7:=by
 refine cJ mixed I9 Hx fun z aV=>?_
 obtain⟨a,b⟩:=z
 obtain⟨cZ,cm⟩:=aV
 simp only at cZ cm|-
 have t:=yR (a:=a) (b:=b) (e:=false) (e':=false) cZ cm
 unfold i166
 by_cases h:a<b
 · rw[if_pos h] at t
   have t2:=Ck (b,a) ⟨cm,cZ⟩ (args:=[aw b,aw a]) (by simp)
   simp only at t2
   rw[if_pos h,decide_eq_true h]
   generalize b - a=c at*
   refine al [0,1,4,5,6,7,14] fun F=>?_
   simp only[ak]
   intro f0 f1 f4 f5 f6 f7 f14
   simp[a8] at f0 f1 f4 f5 f6 f7 f14
   repeat' (first
    | refine ax ?_
    | ((fail_if_success (refine aQ ?_));(fail_if_success (refine aR ?_));refine aL ?_)
    | ((first|(refine az aM ?_;simp(disch:=omega) [t,t2,f0,f1,f4,f5,f6,f7,f14];(try(refine⟨by first|decide|rfl,?_⟩)))|(refine aK ?_;simp(disch:=omega) [t,t2,f0,f1,f4,f5,f6,f7,f14]));(try(refine al [0,1,4,5,6,7,14] ?_;intro F;simp only[ak];intro U ab ad ah ag ar bs;simp(disch:=omega) [t,t2,f0,f1,f4,f5,f6,f7,f14] at U ab ad ah ag ar bs;clear f0 f1 f4 f5 f6 f7 f14;have f0:=U;have f1:=ab;have f4:=ad;have f5:=ah;have f6:=ag;have f7:=ar;have f14:=bs;clear U ab ad ah ag ar bs)))
    | (refine aJ _ (by simp(disch:=omega) [t,t2,f0,f1,f4,f5,f6,f7,f14];rfl) (fun I=>?_) (fun I=>?_)<;>first|(exfalso;simp(disch:=omega) [t,t2] at I;done)|(exfalso;simp at I;omega)|(simp at I))
    | ((first|refine aH ?_|refine aN ?_);simp(disch:=omega) [t,t2,f0,f1,f4,f5,f6,f7,f14]))
 · rw[if_neg h] at t
   rw[if_neg h,decide_eq_false h]
   generalize a - b=c at*
   refine al [0,1,4,5,6,7,14] fun F=>?_
   simp only[ak]
   intro f0 f1 f4 f5 f6 f7 f14
   simp[a8] at f0 f1 f4 f5 f6 f7 f14
   repeat' (first
    | refine ax ?_
    | ((fail_if_success (refine aQ ?_));(fail_if_success (refine aR ?_));refine aL ?_)
    | ((first|(refine az aM ?_;simp(disch:=omega) [t,f0,f1,f4,f5,f6,f7,f14];(try(refine⟨by first|decide|rfl,?_⟩)))|(refine aK ?_;simp(disch:=omega) [t,f0,f1,f4,f5,f6,f7,f14]));(try(refine al [0,1,4,5,6,7,14] ?_;intro F;simp only[ak];intro U ab ad ah ag ar bs;simp(disch:=omega) [t,f0,f1,f4,f5,f6,f7,f14] at U ab ad ah ag ar bs;clear f0 f1 f4 f5 f6 f7 f14;have f0:=U;have f1:=ab;have f4:=ad;have f5:=ah;have f6:=ag;have f7:=ar;have f14:=bs;clear U ab ad ah ag ar bs)))
    | (refine aJ _ (by simp(disch:=omega) [t,f0,f1,f4,f5,f6,f7,f14];rfl) (fun I=>?_) (fun I=>?_)<;>first|(exfalso;simp(disch:=omega) [t] at I;done)|(exfalso;simp at I;omega)|(simp at I))
    | ((first|refine aH ?_|refine aN ?_);simp(disch:=omega) [t,f0,f1,f4,f5,f6,f7,f14]))
noncomputable def y8:FuncId->Option (List J->Option J):=da [(80,hi),(93,lY),(166,y7)]
theorem R_:∀f T,y8 f=some T->bl Tryz.prog G f T:=dc (by simp only[List.forall_mem_cons];exact ⟨sR,wU,R9,fun _ h=>absurd h (by simp)⟩)
theorem R':y8 80=some hi:=rfl
theorem Sa:y8 93=some lY:=rfl
theorem Sb:y8 166=some y7:=rfl
attribute [local simp] R' Sa Sb
def m0 (a b c:Nat):Nat:=if a+c<b then b -(a+c) else a+c - b
noncomputable def uP:List J->Option J:=cl (fun z:Nat × Nat × Nat=>(ai z.1).length<=10000000/\(ai z.2.1).length<=10000000/\(ai z.2.2).length<=10000000) (fun z=>[.agg [aw z.1,aw z.2.1,aw z.2.2]]) (fun z=> .cb [aw (z.1+z.2.2+z.2.1),aw (m0 z.1 z.2.1 z.2.2),aw (z.1+(z.2.1*2^1+z.2.2*2^2)),.bool (decide (z.1+z.2.2<z.2.1))])
theorem Ja (z:Nat × Nat × Nat) (h:(ai z.1).length<=10000000/\(ai z.2.1).length<=10000000/\(ai z.2.2).length<=10000000) {args:List J} (he:args.map J.loose= [.agg [aw z.1,aw z.2.1,aw z.2.2]]):uP args=some (.cb [aw (z.1+z.2.2+z.2.1),aw (m0 z.1 z.2.1 z.2.2),aw (z.1+(z.2.1*2^1+z.2.2*2^2)),.bool (decide (z.1+z.2.2<z.2.1))]):=cI (fun z w h=>by first|(simp only[List.cons.injEq,J.int.injEq,J.bool.injEq,J.sl.injEq,bT,bU,bY,bZ,bX,bG,bL,bV,bI,true_and,and_true] at h;simp[h];done)|(simp only[J.agg.injEq,List.cons.injEq,J.int.injEq,J.bool.injEq,J.sl.injEq,bT,bU,bY,bZ,bX,bG,bL,bV,bI,true_and,and_true] at h;simp[h])) z h he
theorem Sc:bl Tryz.prog G 151 uP:=by
 refine cJ mixed R_ Hp fun z aV=>?_
 obtain⟨a,b,c⟩:=z
 obtain⟨cZ,cm,lc⟩:=aV
 simp only at cZ cm lc|-
 have ZQ:=k5 a c
 have t1:=ny (a:=a) (b:=c) (e:=false) (e':=false) (by omega) (by omega)
 have t2:=ny (a:=a+c) (b:=b) (e:=false) (e':=false) (by omega) (by omega)
 have t3:=R8 (a+c,b) ⟨by simp only;omega,by simp only;omega⟩ (args:=[aw (a+c),aw b]) (by simp)
 have t4:=rq (a:=b) (n:=1) (e:=false) (by omega) (by omega)
 have t5:=rq (a:=c) (n:=2) (e:=false) (by omega) (by omega)
 have s3:=hC b (2^1)
 have ZR:=hC c (2^2)
 have ad:(ai (2^1)).length<=1:=c8.2 (by rw[pa];decide)
 have ah:(ai (2^2)).length<=1:=c8.2 (by rw[pa];decide)
 have ZS:=k5 (b*2^1) (c*2^2)
 have t6:=ny (a:=b*2^1) (b:=c*2^2) (e:=false) (e':=false) (by omega) (by omega)
 have t7:=ny (a:=a) (b:=b*2^1+c*2^2) (e:=false) (e':=false) (by omega) (by omega)
 simp only at t3
 rw[show (if a+c<b then b -(a+c) else a+c - b)=m0 a b c from rfl] at t3
 generalize decide (a+c<b)=neg at*
 generalize m0 a b c=e5 at*
 generalize a+(b*2^1+c*2^2)=cV at*
 generalize b*2^1+c*2^2=cY at*
 generalize b*2^1=dF at*
 generalize c*2^2=dK at*
 generalize a+c+b=ij at*
 generalize a+c=ik at*
 unfold i151
 refine al [0,1,2,3,4,5,6] fun F=>?_
 simp only[ak]
 intro f0 f1 f2 f3 f4 f5 f6
 simp[a8] at f0 f1 f2 f3 f4 f5 f6
 repeat' (first
  | refine ax ?_
  | ((fail_if_success (refine aQ ?_));(fail_if_success (refine aR ?_));refine aL ?_)
  | ((first|(refine az aM ?_;simp(disch:=omega) [l0,l1,l2,t1,t2,t3,t4,t5,t6,t7,f0,f1,f2,f3,f4,f5,f6];(try(refine⟨by first|decide|rfl,?_⟩)))|(refine aK ?_;simp(disch:=omega) [l0,l1,l2,t1,t2,t3,t4,t5,t6,t7,f0,f1,f2,f3,f4,f5,f6]));(try(refine al [0,1,2,3,4,5,6] ?_;intro F;simp only[ak];intro U ab aa af ad ah ag;simp(disch:=omega) [l0,l1,l2,t1,t2,t3,t4,t5,t6,t7,f0,f1,f2,f3,f4,f5,f6] at U ab aa af ad ah ag;clear f0 f1 f2 f3 f4 f5 f6;have f0:=U;have f1:=ab;have f2:=aa;have f3:=af;have f4:=ad;have f5:=ah;have f6:=ag;clear U ab aa af ad ah ag)))
  | (refine aJ _ (by simp(disch:=omega) [l0,l1,l2,t1,t2,t3,t4,t5,t6,t7,f0,f1,f2,f3,f4,f5,f6];rfl) (fun I=>?_) (fun I=>?_)<;>first|(exfalso;simp(disch:=omega) [l0,l1,l2,t1,t2,t3,t4,t5,t6,t7] at I;done)|(exfalso;simp at I;omega)|(simp at I))
  | ((first|refine aH ?_|refine aN ?_);simp(disch:=omega) [l0,l1,l2,t1,t2,t3,t4,t5,t6,t7,f0,f1,f2,f3,f4,f5,f6]))
end
section
attribute [local irreducible] cQ
attribute [local simp] ek eL du
theorem Sd (u v x y:Nat):((decide (u<x)=decide (v<y))->(u+x)*(v+y)+(if u<x then x - u else u - x)*(if v<y then y - v else v - y)=2*(u*v+x*y)/\(u+x)*(v+y) -(if u<x then x - u else u - x)*(if v<y then y - v else v - y)=2*(u*y+x*v))/\
 ((decide (u<x)≠decide (v<y))->(u+x)*(v+y) -(if u<x then x - u else u - x)*(if v<y then y - v else v - y)=2*(u*v+x*y)/\(u+x)*(v+y)+(if u<x then x - u else u - x)*(if v<y then y - v else v - y)=2*(u*y+x*v)):=by
 by_cases ae:u<x<;>by_cases h2:v<y<;>simp only[ae,h2,decide_true,decide_false,if_true,if_false,ne_eq,not_true,not_false_eq_true,false_implies,true_implies,and_true,true_and,Bool.true_eq_false,Bool.false_eq_true]
 · obtain⟨d,rfl⟩:∃d,x=u+d:=⟨x - u,by omega⟩
   obtain⟨e,rfl⟩:∃e,y=v+e:=⟨y - v,by omega⟩
   rw[Nat.add_sub_cancel_left,Nat.add_sub_cancel_left]
   exact ⟨by grind,Nat.sub_eq_of_eq_add (by grind)⟩
 · obtain⟨d,rfl⟩:∃d,x=u+d:=⟨x - u,by omega⟩
   obtain⟨e,rfl⟩:∃e,v=y+e:=⟨v - y,by omega⟩
   rw[Nat.add_sub_cancel_left,Nat.add_sub_cancel_left]
   exact ⟨Nat.sub_eq_of_eq_add (by grind),by grind⟩
 · obtain⟨d,rfl⟩:∃d,u=x+d:=⟨u - x,by omega⟩
   obtain⟨e,rfl⟩:∃e,y=v+e:=⟨y - v,by omega⟩
   rw[Nat.add_sub_cancel_left,Nat.add_sub_cancel_left]
   exact ⟨Nat.sub_eq_of_eq_add (by grind),by grind⟩
 · obtain⟨d,rfl⟩:∃d,u=x+d:=⟨u - x,by omega⟩
   obtain⟨e,rfl⟩:∃e,v=y+e:=⟨v - y,by omega⟩
   rw[Nat.add_sub_cancel_left,Nat.add_sub_cancel_left]
   exact ⟨by grind,Nat.sub_eq_of_eq_add (by grind)⟩
theorem Se (x0 x1 x2 y0 y1 ec:Nat):∃E O ct er ej dg cV cY dF dK u:Nat,
 ct=(x0+x2+x1)*(y0+ec+y1)/\er=m0 x0 x1 x2*m0 y0 y1 ec/\ej=(x0+(x1*2^1+x2*2^2))*(y0+(y1*2^1+ec*2^2))/\dg=x0*y0/\dK=x2*ec/\
 (decide (x0+x2<x1)=decide (y0+ec<y1)->ct+er=E/\ct - er=O)/\(decide (x0+x2<x1)≠decide (y0+ec<y1)->ct - er=E/\ct+er=O)/\
 E/2^1 -(dg+dK)=cY/\ej -(dg+(cY*2^2+dK*2^4))=u/\(u/2^1 - O/2^1)%3=0/\(u/2^1 - O/2^1)/3=dF/\O/2^1 - dF=cV/\
 (∀x∈ [ct,er,ej,E,O,dg,cV,cY,dF,dK,dg+dK,E/2^1,O/2^1,cY*2^2,dK*2^4,cY*2^2+dK*2^4,dg+(cY*2^2+dK*2^4),u,u/2^1,u/2^1 - O/2^1],x<=2*ct+ej)/\
 cV=x0*y1+x1*y0/\cY=x0*ec+x2*y0+x1*y1/\dF=x1*ec+x2*y1:=by
 obtain⟨ae,h2⟩:=Sd (x0+x2) (y0+ec) x1 y1
 obtain⟨dg,ia⟩:∃c,c=x0*y0:=⟨_,rfl⟩
 obtain⟨cV,rj⟩:∃c,c=x0*y1+x1*y0:=⟨_,rfl⟩
 obtain⟨cY,hr⟩:∃c,c=x0*ec+x2*y0+x1*y1:=⟨_,rfl⟩
 obtain⟨dF,uQ⟩:∃c,c=x1*ec+x2*y1:=⟨_,rfl⟩
 obtain⟨dK,pe⟩:∃c,c=x2*ec:=⟨_,rfl⟩
 have Sf:(x0+x2)*(y0+ec)+x1*y1=dg+cY+dK:=by rw[ia,hr,pe];grind
 have As:(x0+x2)*y1+x1*(y0+ec)=cV+dF:=by rw[rj,uQ];grind
 have aj:(x0+x2+x1)*(y0+ec+y1)=dg+cV+cY+dF+dK:=by rw[ia,rj,hr,uQ,pe];grind
 have aq:(x0+(x1*2^1+x2*2^2))*(y0+(y1*2^1+ec*2^2))=dg+2*cV+4*cY+8*dF+16*dK:=by rw[ia,rj,hr,uQ,pe];grind
 rw[Sf,As,show (if x0+x2<x1 then x1 -(x0+x2) else x0+x2 - x1)=m0 x0 x1 x2 from rfl,show (if y0+ec<y1 then y1 -(y0+ec) else y0+ec - y1)=m0 y0 y1 ec from rfl,aj] at ae h2
 generalize m0 x0 x1 x2*m0 y0 y1 ec=er at*
 have uR:er<=dg+cV+cY+dF+dK\/dg+cV+cY+dF+dK<er:=by omega
 refine⟨2*(dg+cY+dK),2*(cV+dF),_,er,_,dg,cV,cY,dF,dK,2*(cV+4*dF),aj.symm,rfl,aq.symm,ia,pe,ae,h2,by omega,by omega,by omega,by omega,by omega,?_,rj,hr,uQ⟩
 have uR:er<=dg+cV+cY+dF+dK:=by
  by_cases h:decide (x0+x2<x1)=decide (y0+ec<y1)
  · have:=ae h;omega
  · have:=h2 h;omega
 intro x av
 simp only[List.mem_cons,List.not_mem_nil,or_false] at av
 omega
theorem Sg {E O ct er ej dg cV cY dF dK u:Nat} (aV:(ai (2*ct+ej)).length<=1000000)
 (uS:∀x∈ [ct,er,ej,E,O,dg,cV,cY,dF,dK,dg+dK,E/2^1,O/2^1,cY*2^2,dK*2^4,cY*2^2+dK*2^4,dg+(cY*2^2+dK*2^4),u,u/2^1,u/2^1 - O/2^1],x<=2*ct+ej)
 (h2:E/2^1 -(dg+dK)=cY) (hu:ej -(dg+(cY*2^2+dK*2^4))=u) (Co:(u/2^1 - O/2^1)%3=0) (aO:(u/2^1 - O/2^1)/3=dF) (ae:O/2^1 - dF=cV):
 ∃v1 v2 pf v4 qB v6 rz rA rB:Nat,hi [aw ct,aw er]=some (aw (ct+er))/\lL [aw ct,aw er]=some (aw (ct - er))/\mX [aw E,bp 1]=some (aw v4)/\mX [aw O,bp 1]=some (aw pf)/\hi [aw dg,aw dK]=some (aw rB)/\lL [aw v4,aw rB]=some (aw cY)/\
  lY [aw cY,bp 2]=some (aw rz)/\lY [aw dK,bp 4]=some (aw rA)/\hi [aw rz,aw rA]=some (aw v6)/\hi [aw dg,aw v6]=some (aw qB)/\lL [aw ej,aw qB]=some (aw u)/\mX [aw u,bp 1]=some (aw v2)/\lL [aw v2,aw pf]=some (aw v1)/\s0 [aw v1]=some (aw dF)/\lL [aw pf,aw dF]=some (aw cV):=by
 have sz:∀x,x∈ [ct,er,ej,E,O,dg,cV,cY,dF,dK,dg+dK,E/2^1,O/2^1,cY*2^2,dK*2^4,cY*2^2+dK*2^4,dg+(cY*2^2+dK*2^4),u,u/2^1,u/2^1 - O/2^1]->∀n,1000000<=n->(ai x).length<=n:=fun x av n aC=>Nat.le_trans (f_ (uS x av)) (Nat.le_trans aV aC)
 have c6:∀x y,(∀n,1000000<=n->(ai x).length<=n)->(∀n,1000000<=n->(ai y).length<=n)->hi [aw x,aw y]=some (aw (x+y)):=fun x y av bj=>ny (av _ (by decide)) (bj _ (by decide))
 have le:∀x y,(∀n,1000000<=n->(ai x).length<=n)->(∀n,1000000<=n->(ai y).length<=n)->lL [aw x,aw y]=some (aw (x - y)):=fun x y av bj=>Ck (x,y) ⟨av _ (by decide),bj _ (by decide)⟩ (by simp)
 have w4:∀x,(∀n,1000000<=n->(ai x).length<=n)->mX [aw x,bp 1]=some (aw (x/2^1)):=fun x av=>IP (x,1) ⟨av _ (by decide),show 1<=10000000000 by decide⟩ (by simp)
 have sl:∀x k,k<=4->(∀n,1000000<=n->(ai x).length<=n)->lY [aw x,bp k]=some (aw (x*2^k)):=fun x k aI av=>rq (av _ (by decide)) (by omega)
 have kr:s0 [aw (u/2^1 - O/2^1)]=some (aw ((u/2^1 - O/2^1)/3)):=R6 _ ⟨sz _ (by simp) _ (by decide),Co⟩ (by simp)
 rw[aO] at kr
 refine⟨u/2^1 - O/2^1,u/2^1,O/2^1,E/2^1,dg+(cY*2^2+dK*2^4),cY*2^2+dK*2^4,cY*2^2,dK*2^4,dg+dK,c6 _ _ (sz _ (by simp)) (sz _ (by simp)),le _ _ (sz _ (by simp)) (sz _ (by simp)),w4 _ (sz _ (by simp)),w4 _ (sz _ (by simp)),c6 _ _ (sz _ (by simp)) (sz _ (by simp)),?_,sl _ _ (by decide) (sz _ (by simp)),sl _ _ (by decide) (sz _ (by simp)),c6 _ _ (sz _ (by simp)) (sz _ (by simp)),c6 _ _ (sz _ (by simp)) (sz _ (by simp)),?_,w4 _ (sz _ (by simp)),le _ _ (sz _ (by simp)) (sz _ (by simp)),kr,?_⟩
 · have:=le (E/2^1) (dg+dK) (sz _ (by simp)) (sz _ (by simp));rwa [h2] at this
 · have:=le ej (dg+(cY*2^2+dK*2^4)) (sz _ (by simp)) (sz _ (by simp));rwa [hu] at this
 · have:=le (O/2^1) dF (sz _ (by simp)) (sz _ (by simp));rwa [ae] at this
def nI (k:Nat) (cs:List Nat):Nat->Nat
 | 0=>0
 | i+1=>nI k cs i+a5 cs i*2^(32*k*i)
theorem Sh (k x0 x1 x2 y0 y1 ec:Nat):nI k [x0*y0,x0*y1+x1*y0,x0*ec+x2*y0+x1*y1,x1*ec+x2*y1,x2*ec] 5=(x0+aE k*(x1+aE k*x2))*(y0+aE k*(y1+aE k*ec)):=by
 rw[ll]
 simp only[nI,BD,yy]
 rw[Nat.mul_zero,Nat.pow_zero,Nat.mul_one (32*k),show 32*k*2=32*k+32*k by omega,show 32*k*3=32*k+32*k+32*k by omega,show 32*k*4=32*k+32*k+32*k+32*k by omega]
 simp only[Nat.pow_add]
 generalize 2^(32*k)=P
 grind
theorem Cp:∀z w:Nat × Nat,(fun z:Nat × Nat=>[aw z.1,aw z.2]) z=(fun z:Nat × Nat=>[aw z.1,aw z.2]) w->(fun z:Nat × Nat=>aw (z.1*z.2)) z=(fun z:Nat × Nat=>aw (z.1*z.2)) w:=fun z w h=>by simp only at h|-;first|(simp only[List.cons.injEq,J.int.injEq,J.bool.injEq,J.sl.injEq,bT,bU,bY,bZ,bX,bG,bL,bV,bI,true_and,and_true] at h;simp[h];done)|(simp only[J.agg.injEq,List.cons.injEq,J.int.injEq,J.bool.injEq,J.sl.injEq,bT,bU,bY,bZ,bX,bG,bL,bV,bI,true_and,and_true] at h;simp[h])
noncomputable def w5:List J->Option J:=cl (fun z:Nat × Nat=>(ai z.1).length<=500000/\(ai z.2).length<=500000) (fun z:Nat × Nat=>[aw z.1,aw z.2]) (fun z:Nat × Nat=>aw (z.1*z.2))
theorem Si (z:Nat × Nat) (h:(ai z.1).length<=500000/\(ai z.2).length<=500000) {args:List J} (he:args.map J.loose= [aw z.1,aw z.2]):w5 args=some (aw (z.1*z.2)):=cI Cp z h he
noncomputable def pg (N:Nat):List J->Option J:=cl (fun z:Nat × Nat=>((ai z.1).length<=500000/\(ai z.2).length<=500000)/\(max (ai z.1).length (ai z.2).length)<N) (fun z:Nat × Nat=>[aw z.1,aw z.2]) (fun z:Nat × Nat=>aw (z.1*z.2))
theorem w6 {N:Nat} (z:Nat × Nat) (h:((ai z.1).length<=500000/\(ai z.2).length<=500000)/\(max (ai z.1).length (ai z.2).length)<N) {args:List J} (he:args.map J.loose= [aw z.1,aw z.2]):pg N args=some (aw (z.1*z.2)):=cI Cp z h he
theorem Sj (h:∀N,bl Tryz.prog G 132 (pg N)->bl Tryz.prog G 132 (pg (N+1))):bl Tryz.prog G 132 w5:=F3 Cp (fun z:Nat × Nat=>max (ai z.1).length (ai z.2).length) h
noncomputable def nJ (N:Nat):FuncId->Option (List J->Option J):=da [(132,pg N),(133,sW),(147,rv),(151,uP),(152,lL),(153,s0),(80,hi),(93,lY),(124,mX)]
theorem Sk {N:Nat} (h:bl Tryz.prog G 132 (pg N)):∀f T,nJ N f=some T->bl Tryz.prog G f T:=dc (by simp only[List.forall_mem_cons];exact ⟨h,I8,I6,Sc,Cl,R7,sR,wU,B',fun _ h=>absurd h (by simp)⟩)
theorem Jb (N:Nat):nJ N 132=some (pg N):=rfl
theorem Jc (N:Nat):nJ N 133=some sW:=rfl
theorem Jd (N:Nat):nJ N 147=some rv:=rfl
theorem Je (N:Nat):nJ N 151=some uP:=rfl
theorem Jf (N:Nat):nJ N 152=some lL:=rfl
theorem Jg (N:Nat):nJ N 153=some s0:=rfl
theorem Jh (N:Nat):nJ N 80=some hi:=rfl
theorem Ji (N:Nat):nJ N 93=some lY:=rfl
theorem Jj (N:Nat):nJ N 124=some mX:=rfl
theorem Jk (N:Nat):nJ N 150=none:=rfl
attribute [local simp] Jb Jc Jd Je Jf Jg Jh Ji Jj Jk
theorem Jl (N:Nat) (Y:List dm) (h:aF) {a k n p q:Nat} (aI:h.cells p=some [bp k]) (aC:h.cells q=some [bp n]) (ZT:p<h.next) (ov:q<h.next) (cG:h.shut h.next=false) (cZ:(ai a).length<=500000) (mC:2*k<=n) (eC:n<=500000):
 fv G (bk Tryz.prog) (nJ N) Y (.fn 150) [aw a,.ptr p 0 0,.ptr q 0 0] h=some (.agg [aw (a%aE k),aw (a%aE (2*k)/aE k),aw (a%aE n/aE (2*k))],⟨aG (aG h.cells h.next (some [.agg [.sl [] true,.sl [] true,.sl [] true]])) h.next (some [.agg [aw (a%aE k),aw (a%aE (2*k)/aE k),aw (a%aE n/aE (2*k))]]),h.shut,h.next+16,h.bu⟩):=by
 have md:=w2 (a,0,k) ⟨by simp only;omega,Nat.zero_le _,by simp only;omega⟩ (args:=[aw a,bp 0,bp k]) (by simp)
 have dO:=w2 (a,k,2*k) ⟨by simp only;omega,by simp only;omega,by simp only;omega⟩ (args:=[aw a,bp k,bp (2*k)]) (by simp)
 have e2:=w2 (a,2*k,n) ⟨by simp only;omega,by simp only;omega,by simp only;omega⟩ (args:=[aw a,bp (2*k),bp n]) (by simp)
 simp only[fC,Nat.div_one] at md dO e2
 have bK:IntKind.i64.wrap (Z 2*Z k)=Z (2*k):=sB (by omega)
 generalize a%aE k=x0 at*
 generalize a%aE (2*k)/aE k=x1 at*
 generalize a%aE n/aE (2*k)=x2 at*
 generalize 2*k=Sl at*
 obtain⟨v,ay,e,rfl,rfl⟩:=k3 (Φ:=bk Tryz.prog) (G:=G) (tab:=nJ N) (Y:=Y) (h:=h) (args:=[aw a,.ptr p 0 0,.ptr q 0 0]) (R:=fun v ay=>v= .agg [aw x0,aw x1,aw x2]/\ay=⟨aG (aG h.cells h.next (some [.agg [.sl [] true,.sl [] true,.sl [] true]])) h.next (some [.agg [aw x0,aw x1,aw x2]]),h.shut,h.next+16,h.bu⟩) Ho (by
  unfold i150
  refine al [0,1,2,4] fun F=>?_
  simp only[ak]
  intro f0 f1 f2 f4
  simp[a8] at f0 f1 f2 f4
  repeat' (first
   | refine ax ?_
   | ((fail_if_success (refine aQ ?_));(fail_if_success (refine aR ?_));refine aL ?_)
   | ((first|(refine az cz ?_;simp(disch:=omega) [aI,aC,cG,md,dO,e2,bK,Nat.add_assoc,f0,f1,f2,f4];(try(refine⟨by first|decide|rfl,?_⟩)))|(refine aK ?_;simp(disch:=omega) [aI,aC,cG,md,dO,e2,bK,Nat.add_assoc,f0,f1,f2,f4]));(try(refine al [0,1,2,4] ?_;intro F;simp only[ak];intro U ab aa ad;simp(disch:=omega) [aI,aC,cG,md,dO,e2,bK,Nat.add_assoc,f0,f1,f2,f4] at U ab aa ad;clear f0 f1 f2 f4;have f0:=U;have f1:=ab;have f2:=aa;have f4:=ad;clear U ab aa ad)))
   | (refine aJ _ (by simp(disch:=omega) [aI,aC,cG,md,dO,e2,bK,Nat.add_assoc,f0,f1,f2,f4];rfl) (fun I=>?_) (fun I=>?_)<;>first|(exfalso;simp(disch:=omega) [aI,aC,cG,md,dO,e2,bK,Nat.add_assoc] at I;done)|(exfalso;simp at I;omega)|(simp at I))
   | ((first|refine aH ?_|refine aN ?_);simp(disch:=omega) [aI,aC,cG,md,dO,e2,bK,Nat.add_assoc,f0,f1,f2,f4]))
  refine aH ?_
  simp[hT,f4])
 exact e
theorem Jm {k:Nat} (u v w:Nat) (hu:(ai u).length<=k) (aY:(ai v).length<=k) (hw:(ai w).length<=k):(ai (u+w+v)).length<=k+2/\(ai (m0 u v w)).length<=k+2/\(ai (u+(v*2^1+w*2^2))).length<=k+3:=by
 have ZU:(ai (2^1)).length<=1:=c8.2 (by rw[pa];decide)
 have ZV:(ai (2^2)).length<=1:=c8.2 (by rw[pa];decide)
 have a1:=k5 u w
 have cP:=k5 (u+w) v
 have fV:=hC v (2^1)
 have hE:=hC w (2^2)
 have ga:=k5 (v*2^1) (w*2^2)
 have hn:=k5 u (v*2^1+w*2^2)
 have s4:m0 u v w<=u+w+v:=by unfold m0;split<;>omega
 have y9:=f_ s4
 omega
end
end
end Go.Proofs.YtcikknajimdjoaaGreatDoor
