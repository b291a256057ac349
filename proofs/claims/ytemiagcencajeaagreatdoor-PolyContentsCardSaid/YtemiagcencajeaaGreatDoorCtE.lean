/- What the claim needs of the walks, put together by a program (shake.py). -/
import Derived.Test.YtemiagcencajeaaGreatDoorCtD
set_option maxRecDepth 100000
set_option linter.unusedSimpArgs false
set_option linter.unusedVariables false
set_option linter.unusedSectionVars false
namespace Go.Proofs.YtemiagcencajeaaGreatDoor
section
set_option maxHeartbeats 8000000
open Go Go.Eng Go.RowKit
attribute [local simp] bx.m bx.o bx.n bx.g gZ eQ df c7 dj evalOp.eq_1 evalOp.eq_2 evalOp.eq_3 evalOp.eq_4 evalOp.eq_5 evalOp.eq_6 evalOp.eq_7 evalOp.eq_8 evalOp.eq_9 evalOp.eq_10 evalOp.eq_11 evalOp.eq_12 evalOp.eq_13 evalOp.eq_14 evalOp.eq_15 evalOp.eq_16 evalOp.eq_17 evalOp.eq_18 evalOp.eq_19 evalOp.eq_20 evalOp.eq_21 evalOp.eq_22 evalOp.eq_23 evalOp.eq_24 evalOp.eq_25 evalOp.eq_27 evalOp.eq_28 evalOp.eq_29 jK bf.ev c6 aF aA.new bj J.cells J.c0 J.ew J.eA hF hH hG hI hK hJ iX iY iZ gm gn cut partOf bound elems ja jb jc jd je jf jg jh ji jj jk jl g2 jm jn jo jq jr js jt ju jv jw jx jy jz jA jB jC jD jE jF jG jH jI jJ eP eJ eB fA hL g0 aA.close aA.set hr jL jM jN i' g1 gv fT fs gf hn gM gg ho hp hq fx fy fz fv hM bY hj hN hk hO hP fq hQ fr hR hS hT gd iW hU hV hW hX hY hZ h0 h1 h3 h4 h5 h6 h7 h8 h9 h_ h' ia ib hl ic ie ig ih ij ik il im iq ir iu iv iw ix iy
attribute [local simp high] iT iU iV iz iA iB iC iD iE iF iG iH iI iJ iK iL iM iN iO iP iQ iR iS
attribute [local simp] aJ List.getElem?_cons_zero List.getElem?_cons_succ eH dp fP Nat.mod_eq_of_lt jY jZ j0 j1 fU j2 j3 j4
section
attribute [local irreducible] ck
attribute [local simp] ed ef dm
def bU (o:List Nat):List J:=o.map fun n=> .int .u32 (Z n)
theorem jQ {o:List Nat} {i:Nat} (h:i<o.length):(bU o)[i]? =some (.int .u32 (Z (aS o i))):=oi h
theorem oy (o:List Nat) (i v:Nat):(bU o).set i (.int .u32 (Z v))=bU (o.set i v):=map_set o i v
theorem o9 (o:List Nat):(bU o).length=o.length:=by simp[bU]
theorem ko {o:List Nat} (h:0<o.length):sizedB 1 (some (bU o))=true:=by
 simp[sizedB,bU,J.cells];exact h
theorem g6 (n:Nat):List.replicate n (J.int .u32 (Z 0))=bU (List.replicate n 0):=NV n
theorem w_ (o:List Nat):(bU o).all J.eA=true:=uW o
theorem w' {o:List Nat} {n:Nat} (h:o.length<=n):List.take n (bU o)=bU o:=List.take_of_length_le (by rw[o9];exact h)
structure eU (h:aA) (q:Nat) (o:List Nat):Prop where
 cells:h.cells q=some (bU o)
 c1:h.shut q=false
 et:q<h.next
theorem eU.bump {h:aA} {q:Nat} {o:List Nat} (R:eU h q o) (m:Nat) (p:Nat->Option fw) (hm:h.next<=m):eU ⟨h.cells,h.shut,m,p⟩ q o:=⟨R.cells,R.c1,Nat.lt_of_lt_of_le R.et hm⟩
theorem eU.put {h:aA} {q:Nat} {o:List Nat} (R:eU h q o) (o':List Nat) (m:Nat) (p:Nat->Option fw) (hm:h.next<=m):eU ⟨aF h.cells q (some (bU o')),h.shut,m,p⟩ q o':=
 ⟨by simp only[aF,if_true],R.c1,Nat.lt_of_lt_of_le R.et hm⟩
theorem eU.new {h:aA} {q:Nat} {o:List Nat} (m:Nat) (p:Nat->Option fw) (aG:h.shut q=false) (bc:q<m):eU ⟨aF h.cells q (some (bU o)),h.shut,m,p⟩ q o:=
 ⟨by simp only[aF,if_true],aG,bc⟩
noncomputable def GP:FuncId->Option (List J->Option J):=dn [(170,kl)]
theorem PG:∀f T,GP f=some T->br Tryz.prog G f T:=dr (by simp only[List.forall_mem_cons];exact⟨o3,fun _ h=>absurd h (by simp)⟩)
theorem PH:GP 170=some kl:=rfl
attribute [local simp] PH
def GQ (a b A B i:Nat) (s:a'):Prop:=∃q o,o.length=A+B/\Small o/\(∀j,i+B<=j->aS o j=0)/\val o=a%ay i*b/\s.F 5= .ref q 0 (A+B) (A+B)/\eU s.h q o
def GR (a b A B i x k:Nat) (s:a'):Prop:=∃q o c,o.length=A+B/\Small o/\(∀j,i+B<=j->aS o j=0)/\c<4294967296/\val o+ay i*ay k*c=a%ay i*b+ay i*(x*(b%ay k))/\s.F 5= .ref q 0 (A+B) (A+B)/\s.F 8=fj c/\eU s.h q o
noncomputable def sZ:List J->Option J:=cd (fun z:Nat × Nat=>(ah z.1).length<=100000000/\(ah z.2).length<=100000000) (fun z=>[aw z.1,aw z.2]) (fun z=>aw (z.1*z.2))
theorem GS (z:Nat × Nat) (h:(ah z.1).length<=100000000/\(ah z.2).length<=100000000) {args:List J} (he:args.map J.loose= [aw z.1,aw z.2]):sZ args=some (aw (z.1*z.2)):=cU (fun z w h=>by first|(simp only[List.cons.injEq,J.int.injEq,J.bool.injEq,J.sl.injEq,cl,cm,ct,cu,cp,b2,b6,cn,bY,true_and,and_true] at h;simp[h];done)|(simp only[J.agg.injEq,List.cons.injEq,J.int.injEq,J.bool.injEq,J.sl.injEq,cl,cm,ct,cu,cp,b2,b6,cn,bY,true_and,and_true] at h;simp[h])) z h he
theorem GU:br Tryz.prog G 203 sZ:=by
 refine cG mixed PG E6 fun z aP=>?_
 obtain⟨a,b⟩:=z
 obtain⟨cE,PI⟩:=aP
 simp only at cE PI|-
 have bh:=dO a
 have aj:=dO b
 obtain⟨A,aI⟩:∃A,A=(ah a).length:=⟨_,rfl⟩
 obtain⟨B,a6⟩:∃B,B=(ah b).length:=⟨_,rfl⟩
 have PJ:a<ay A:=c5.1 (by omega)
 have PK:b<ay B:=c5.1 (by omega)
 have hw:IntKind.i64.wrap (Z A+Z B)=Z (A+B):=eH (by omega)
 have aW:Z (A+B)*4<=140737488355328:=by simp only[Z];omega
 unfold i203
 refine ao [0,1,4,5,6,7,8,9,10,17,18,19,20,24,25,26,27] fun F=>?_
 simp only[an]
 intro f0 f1 f4 f5 f6 f7 f8 f9 f10 f17 f18 f19 f20 f24 f25 f26 f27
 simp[bj] at f0 f1 f4 f5 f6 f7 f8 f9 f10 f17 f18 f19 f20 f24 f25 f26 f27
 repeat' (first
  | refine aC ?_
  | ((fail_if_success (refine aT ?_));(fail_if_success (refine aU ?_));refine aO ?_)
  | ((first|(refine aD aN ?_;simp(disch:=omega) [<-aI,<-a6,hw,aW,g6,f0,f1,f4,f5,f6,f7,f8,f9,f10,f17,f18,f19,f20,f24,f25,f26,f27];(try(refine⟨by first|decide|rfl,?_⟩)))|(refine aM ?_;simp(disch:=omega) [<-aI,<-a6,hw,aW,g6,f0,f1,f4,f5,f6,f7,f8,f9,f10,f17,f18,f19,f20,f24,f25,f26,f27]));(try(refine ao [0,1,4,5,6,7,8,9,10,17,18,19,20,24,25,26,27] ?_;intro F;simp only[an];intro U aa ad ae ai au az a2 a5 cB bG ds b8 cA bo bB bL;simp(disch:=omega) [<-aI,<-a6,hw,aW,g6,f0,f1,f4,f5,f6,f7,f8,f9,f10,f17,f18,f19,f20,f24,f25,f26,f27] at U aa ad ae ai au az a2 a5 cB bG ds b8 cA bo bB bL;clear f0 f1 f4 f5 f6 f7 f8 f9 f10 f17 f18 f19 f20 f24 f25 f26 f27;have f0:=U;have f1:=aa;have f4:=ad;have f5:=ae;have f6:=ai;have f7:=au;have f8:=az;have f9:=a2;have f10:=a5;have f17:=cB;have f18:=bG;have f19:=ds;have f20:=b8;have f24:=cA;have f25:=bo;have f26:=bB;have f27:=bL;clear U aa ad ae ai au az a2 a5 cB bG ds b8 cA bo bB bL)))
  | (refine aL _ (by simp(disch:=omega) [<-aI,<-a6,hw,aW,g6,f0,f1,f4,f5,f6,f7,f8,f9,f10,f17,f18,f19,f20,f24,f25,f26,f27];rfl) (fun I=>?_) (fun I=>?_)<;>first|(exfalso;simp(disch:=omega) [<-aI,<-a6,hw,aW,g6] at I;done)|(exfalso;simp at I;omega)|(simp at I))
  | ((first|refine aH ?_|refine aQ ?_);simp(disch:=omega) [<-aI,<-a6,hw,aW,g6,f0,f1,f4,f5,f6,f7,f8,f9,f10,f17,f18,f19,f20,f24,f25,f26,f27]))
 refine kO A (fun i s=>GQ a b A B i s/\s.F 19=bt i) (GQ a b A B A) (fun _=>False) ?_ ?_ ?_ (fun _ _ h=>h.elim)
 · exact⟨⟨_,List.replicate (A+B) 0,by simp,p2 _,fun j _=>wS _ _,by simp[sF,ft,Nat.mod_one],f5,⟨by simp[aF],by simp,by simp⟩⟩,f19⟩
 · rintro i s ag aE ⟨⟨q,o,fJ,eZ,aP,aR,ez,V⟩,PL⟩
   replace f0:=(aE 0 rfl).trans f0;replace f1:=(aE 1 rfl).trans f1;replace f17:=(aE 17 rfl).trans f17;replace f18:=(aE 18 rfl).trans f18
   clear f5 f19
   have f5:=ez
   have f19:=PL
   refine ao [0,1,5,6,7,8,17,18,19,20,24,25,26] ?_
   intro F
   simp only[an]
   intro U aa ae ai au az cB bG ds b8 cA bo bB
   try simp[aJ,f0,f1,f5,f17,f18,f19] at U aa ae ai au az cB bG ds b8 cA bo bB
   clear f0 f1 f5 f17 f18 f19
   have f0:=U
   have f1:=aa
   have f5:=ae
   have f6:=ai
   have f7:=au
   have f8:=az
   have f17:=cB
   have f18:=bG
   have f19:=ds
   have f20:=b8
   have f24:=cA
   have f25:=bo
   have f26:=bB
   clear U aa ae ai au az cB bG ds b8 cA bo bB
   by_cases eS:i<A
   · have ak:=bh.aS i
     have j9:=(kj (show i<(ah a).length by omega)).symm
     have xa:=fV a i
     generalize fK:aS (ah a) i=x at*
     repeat' (first
      | refine aC ?_
      | ((fail_if_success (refine aT ?_));(fail_if_success (refine aU ?_));refine aO ?_)
      | ((first|(refine aD aN ?_;simp(disch:=omega) [eS,j9,fK,<-aI,<-a6,f0,f1,f5,f6,f7,f8,f17,f18,f19,f20,f24,f25,f26];(try(refine⟨by first|decide|rfl,?_⟩)))|(refine aM ?_;simp(disch:=omega) [eS,j9,fK,<-aI,<-a6,f0,f1,f5,f6,f7,f8,f17,f18,f19,f20,f24,f25,f26]));(try(refine ao [0,1,5,6,7,8,17,18,19,20,24,25,26] ?_;intro F;simp only[an];intro U aa ae ai au az cB bG ds b8 cA bo bB;simp(disch:=omega) [eS,j9,fK,<-aI,<-a6,f0,f1,f5,f6,f7,f8,f17,f18,f19,f20,f24,f25,f26] at U aa ae ai au az cB bG ds b8 cA bo bB;clear f0 f1 f5 f6 f7 f8 f17 f18 f19 f20 f24 f25 f26;have f0:=U;have f1:=aa;have f5:=ae;have f6:=ai;have f7:=au;have f8:=az;have f17:=cB;have f18:=bG;have f19:=ds;have f20:=b8;have f24:=cA;have f25:=bo;have f26:=bB;clear U aa ae ai au az cB bG ds b8 cA bo bB)))
      | (refine aL _ (by simp(disch:=omega) [eS,j9,fK,<-aI,<-a6,f0,f1,f5,f6,f7,f8,f17,f18,f19,f20,f24,f25,f26];rfl) (fun I=>?_) (fun I=>?_)<;>first|(exfalso;simp(disch:=omega) [eS,j9,fK,<-aI,<-a6] at I;done)|(exfalso;simp at I;omega)|(simp at I))
      | ((first|refine aH ?_|refine aQ ?_);simp(disch:=omega) [eS,j9,fK,<-aI,<-a6,f0,f1,f5,f6,f7,f8,f17,f18,f19,f20,f24,f25,f26]))
     refine kO B (fun k s=>GR a b A B i x k s/\s.F 26=bt k) (GR a b A B i x B) (fun _=>False) ?_ ?_ ?_ (fun _ _ h=>h.elim)
     · exact⟨⟨q,o,0,fJ,eZ,aP,by omega,by simp[aR,ft,Nat.mod_one],f5,f8,V.bump _ _ (by omega)⟩,f26⟩
     · rintro k s kz aE ⟨⟨q,o,c,fJ,eZ,aP,g7,aR,ez,j5,V⟩,u5⟩
       replace f0:=(aE 0 rfl).trans f0;replace f1:=(aE 1 rfl).trans f1;replace f6:=(aE 6 rfl).trans f6;replace f7:=(aE 7 rfl).trans f7;replace f17:=(aE 17 rfl).trans f17;replace f18:=(aE 18 rfl).trans f18;replace f19:=(aE 19 rfl).trans f19;replace f24:=(aE 24 rfl).trans f24;replace f25:=(aE 25 rfl).trans f25
       clear f5 f8 f26
       have f5:=ez
       have f8:=j5
       have f26:=u5
       refine ao [0,1,5,6,7,8,9,10,17,18,19,24,25,26,27] ?_
       intro F
       simp only[an]
       intro U aa ae ai au az a2 a5 cB bG ds cA bo bB bL
       try simp[aJ,f0,f1,f5,f6,f7,f8,f17,f18,f19,f24,f25,f26] at U aa ae ai au az a2 a5 cB bG ds cA bo bB bL
       clear f0 f1 f5 f6 f7 f8 f17 f18 f19 f24 f25 f26
       have f0:=U
       have f1:=aa
       have f5:=ae
       have f6:=ai
       have f7:=au
       have f8:=az
       have f9:=a2
       have f10:=a5
       have f17:=cB
       have f18:=bG
       have f19:=ds
       have f24:=cA
       have f25:=bo
       have f26:=bB
       have f27:=bL
       clear U aa ae ai au az a2 a5 cB bG ds cA bo bB bL
       by_cases lR:k<B
       · have bd:=aj.aS k
         have p7:=(kj (show k<(ah b).length by omega)).symm
         have f_:=fV b k
         have aK:=eZ.aS (i+k)
         have go:=jQ (show i+k<o.length by omega)
         generalize jU:aS (ah b) k=y at*
         generalize PM:aS o (i+k)=z at*
         have l0:=PE ak bd
         have lG:x*y+z<18446744073709551616:=by omega
         have pO:c+(x*y+z)<18446744073709551616:=by omega
         have k7:i+k<A+B:=by omega
         have sz:=ko (show 0<o.length by omega)
         have st:=oy o (i+k) ((c+(x*y+z))%4294967296)
         have b3:=V.cells
         have c2:=V.c1
         repeat' (first
          | refine aC ?_
          | ((fail_if_success (refine aT ?_));(fail_if_success (refine aU ?_));refine aO ?_)
          | ((first|(refine aD aN ?_;simp(disch:=omega) [lR,b3,c2,p7,go,jU,lG,pO,k7,sz,st,<-aI,<-a6,f0,f1,f5,f6,f7,f8,f9,f10,f17,f18,f19,f24,f25,f26,f27];(try(refine⟨by first|decide|rfl,?_⟩)))|(refine aM ?_;simp(disch:=omega) [lR,b3,c2,p7,go,jU,lG,pO,k7,sz,st,<-aI,<-a6,f0,f1,f5,f6,f7,f8,f9,f10,f17,f18,f19,f24,f25,f26,f27]));(try(refine ao [0,1,5,6,7,8,9,10,17,18,19,24,25,26,27] ?_;intro F;simp only[an];intro U aa ae ai au az a2 a5 cB bG ds cA bo bB bL;simp(disch:=omega) [lR,b3,c2,p7,go,jU,lG,pO,k7,sz,st,<-aI,<-a6,f0,f1,f5,f6,f7,f8,f9,f10,f17,f18,f19,f24,f25,f26,f27] at U aa ae ai au az a2 a5 cB bG ds cA bo bB bL;clear f0 f1 f5 f6 f7 f8 f9 f10 f17 f18 f19 f24 f25 f26 f27;have f0:=U;have f1:=aa;have f5:=ae;have f6:=ai;have f7:=au;have f8:=az;have f9:=a2;have f10:=a5;have f17:=cB;have f18:=bG;have f19:=ds;have f24:=cA;have f25:=bo;have f26:=bB;have f27:=bL;clear U aa ae ai au az a2 a5 cB bG ds cA bo bB bL)))
          | (refine aL _ (by simp(disch:=omega) [lR,b3,c2,p7,go,jU,lG,pO,k7,sz,st,<-aI,<-a6,f0,f1,f5,f6,f7,f8,f9,f10,f17,f18,f19,f24,f25,f26,f27];rfl) (fun I=>?_) (fun I=>?_)<;>first|(exfalso;simp(disch:=omega) [lR,b3,c2,p7,go,jU,lG,pO,k7,sz,st,<-aI,<-a6] at I;done)|(exfalso;simp at I;omega)|(simp at I))
          | ((first|refine aH ?_|refine aQ ?_);simp(disch:=omega) [lR,b3,c2,p7,go,jU,lG,pO,k7,sz,st,<-aI,<-a6,f0,f1,f5,f6,f7,f8,f9,f10,f17,f18,f19,f24,f25,f26,f27]))
         have g8:=nM ((c+(x*y+z))%4294967296) (show i+k<o.length by omega)
         rw[PM,gw] at g8
         have PN:=PF (B:=4294967296) (q:=(c+(x*y+z))/4294967296) g8 (show c+(x*y+z)=x*y+z+c by omega) (Nat.div_add_mod _ _).symm (show val o+ay i*ay k*c=a%ay i*b+ay i*(x*(b%ay k)) from aR)
         refine⟨q,o.set (i+k) ((c+(x*y+z))%4294967296),(c+(x*y+z))/4294967296,by rw[List.length_set];exact fJ,nN eZ (Nat.mod_lt _ (by decide)),fun j aZ=>?_,by omega,?_,f5,f8,V.put _ _ _ (by omega)⟩
         · rw[oo _ _ (by omega),if_neg (by omega)]
           exact aP j aZ
         · rw[mn,ee,<-f_,<-Nat.mul_assoc]
           exact PN
       · have PO:k=B:=by omega
         subst PO
         repeat' (first
          | refine aC ?_
          | ((fail_if_success (refine aT ?_));(fail_if_success (refine aU ?_));refine aO ?_)
          | ((first|(refine aD aN ?_;simp(disch:=omega) [lR,f0,f1,f5,f6,f7,f8,f9,f10,f17,f18,f19,f24,f25,f26,f27];(try(refine⟨by first|decide|rfl,?_⟩)))|(refine aM ?_;simp(disch:=omega) [lR,f0,f1,f5,f6,f7,f8,f9,f10,f17,f18,f19,f24,f25,f26,f27]));(try(refine ao [0,1,5,6,7,8,9,10,17,18,19,24,25,26,27] ?_;intro F;simp only[an];intro U aa ae ai au az a2 a5 cB bG ds cA bo bB bL;simp(disch:=omega) [lR,f0,f1,f5,f6,f7,f8,f9,f10,f17,f18,f19,f24,f25,f26,f27] at U aa ae ai au az a2 a5 cB bG ds cA bo bB bL;clear f0 f1 f5 f6 f7 f8 f9 f10 f17 f18 f19 f24 f25 f26 f27;have f0:=U;have f1:=aa;have f5:=ae;have f6:=ai;have f7:=au;have f8:=az;have f9:=a2;have f10:=a5;have f17:=cB;have f18:=bG;have f19:=ds;have f24:=cA;have f25:=bo;have f26:=bB;have f27:=bL;clear U aa ae ai au az a2 a5 cB bG ds cA bo bB bL)))
          | (refine aL _ (by simp(disch:=omega) [lR,f0,f1,f5,f6,f7,f8,f9,f10,f17,f18,f19,f24,f25,f26,f27];rfl) (fun I=>?_) (fun I=>?_)<;>first|(exfalso;simp(disch:=omega) [lR] at I;done)|(exfalso;simp at I;omega)|(simp at I))
          | ((first|refine aH ?_|refine aQ ?_);simp(disch:=omega) [lR,f0,f1,f5,f6,f7,f8,f9,f10,f17,f18,f19,f24,f25,f26,f27]))
         exact⟨q,o,c,fJ,eZ,aP,g7,aR,f5,f8,V.bump _ _ (by omega)⟩
     · rintro s aE ⟨q,o,c,fJ,eZ,aP,g7,aR,ez,j5,V⟩
       rw[Nat.mod_eq_of_lt PK] at aR
       replace f0:=(aE 0 rfl).trans f0;replace f1:=(aE 1 rfl).trans f1;replace f6:=(aE 6 rfl).trans f6;replace f7:=(aE 7 rfl).trans f7;replace f17:=(aE 17 rfl).trans f17;replace f18:=(aE 18 rfl).trans f18;replace f19:=(aE 19 rfl).trans f19;replace f24:=(aE 24 rfl).trans f24;replace f25:=(aE 25 rfl).trans f25
       clear f5 f8 f26
       have f5:=ez
       have f8:=j5
       refine ao [0,1,5,6,7,8,17,18,19] ?_
       intro F
       simp only[an]
       intro U aa ae ai au az cB bG ds
       try simp[aJ,f0,f1,f5,f6,f7,f8,f17,f18,f19] at U aa ae ai au az cB bG ds
       clear f0 f1 f5 f6 f7 f8 f17 f18 f19
       have f0:=U
       have f1:=aa
       have f5:=ae
       have f6:=ai
       have f7:=au
       have f8:=az
       have f17:=cB
       have f18:=bG
       have f19:=ds
       clear U aa ae ai au az cB bG ds
       have q_:i+B<A+B:=by omega
       have sz:=ko (show 0<o.length by omega)
       have st:=oy o (i+B) c
       have l9:=jQ (show i+B<o.length by omega)
       have b3:=V.cells
       have c2:=V.c1
       repeat' (first
        | refine aC ?_
        | ((fail_if_success (refine aT ?_));(fail_if_success (refine aU ?_));refine aO ?_)
        | ((first|(refine aD aN ?_;simp(disch:=omega) [b3,c2,q_,sz,st,l9,g7,<-aI,<-a6,f0,f1,f5,f6,f7,f8,f17,f18,f19];(try(refine⟨by first|decide|rfl,?_⟩)))|(refine aM ?_;simp(disch:=omega) [b3,c2,q_,sz,st,l9,g7,<-aI,<-a6,f0,f1,f5,f6,f7,f8,f17,f18,f19]));(try(refine ao [0,1,5,6,7,8,17,18,19] ?_;intro F;simp only[an];intro U aa ae ai au az cB bG ds;simp(disch:=omega) [b3,c2,q_,sz,st,l9,g7,<-aI,<-a6,f0,f1,f5,f6,f7,f8,f17,f18,f19] at U aa ae ai au az cB bG ds;clear f0 f1 f5 f6 f7 f8 f17 f18 f19;have f0:=U;have f1:=aa;have f5:=ae;have f6:=ai;have f7:=au;have f8:=az;have f17:=cB;have f18:=bG;have f19:=ds;clear U aa ae ai au az cB bG ds)))
        | (refine aL _ (by simp(disch:=omega) [b3,c2,q_,sz,st,l9,g7,<-aI,<-a6,f0,f1,f5,f6,f7,f8,f17,f18,f19];rfl) (fun I=>?_) (fun I=>?_)<;>first|(exfalso;simp(disch:=omega) [b3,c2,q_,sz,st,l9,g7,<-aI,<-a6] at I;done)|(exfalso;simp at I;omega)|(simp at I))
        | ((first|refine aH ?_|refine aQ ?_);simp(disch:=omega) [b3,c2,q_,sz,st,l9,g7,<-aI,<-a6,f0,f1,f5,f6,f7,f8,f17,f18,f19]))
       have g8:=nM c (show i+B<o.length by omega)
       rw[aP (i+B) (by omega),Nat.mul_zero,Nat.add_zero,gw] at g8
       refine⟨q,o.set (i+B) c,by rw[List.length_set];exact fJ,nN eZ g7,fun j aZ=>?_,?_,f5,V.put _ _ _ (by omega)⟩
       · rw[oo _ _ (by omega),if_neg (by omega)]
         exact aP j (by omega)
       · rw[g8,mn,<-xa,Nat.add_mul,aR,Nat.mul_assoc]
   · have hh:i=A:=by omega
     subst hh
     repeat' (first
      | refine aC ?_
      | ((fail_if_success (refine aT ?_));(fail_if_success (refine aU ?_));refine aO ?_)
      | ((first|(refine aD aN ?_;simp(disch:=omega) [eS,f0,f1,f5,f6,f7,f8,f17,f18,f19,f20,f24,f25,f26];(try(refine⟨by first|decide|rfl,?_⟩)))|(refine aM ?_;simp(disch:=omega) [eS,f0,f1,f5,f6,f7,f8,f17,f18,f19,f20,f24,f25,f26]));(try(refine ao [0,1,5,6,7,8,17,18,19,20,24,25,26] ?_;intro F;simp only[an];intro U aa ae ai au az cB bG ds b8 cA bo bB;simp(disch:=omega) [eS,f0,f1,f5,f6,f7,f8,f17,f18,f19,f20,f24,f25,f26] at U aa ae ai au az cB bG ds b8 cA bo bB;clear f0 f1 f5 f6 f7 f8 f17 f18 f19 f20 f24 f25 f26;have f0:=U;have f1:=aa;have f5:=ae;have f6:=ai;have f7:=au;have f8:=az;have f17:=cB;have f18:=bG;have f19:=ds;have f20:=b8;have f24:=cA;have f25:=bo;have f26:=bB;clear U aa ae ai au az cB bG ds b8 cA bo bB)))
      | (refine aL _ (by simp(disch:=omega) [eS,f0,f1,f5,f6,f7,f8,f17,f18,f19,f20,f24,f25,f26];rfl) (fun I=>?_) (fun I=>?_)<;>first|(exfalso;simp(disch:=omega) [eS] at I;done)|(exfalso;simp at I;omega)|(simp at I))
      | ((first|refine aH ?_|refine aQ ?_);simp(disch:=omega) [eS,f0,f1,f5,f6,f7,f8,f17,f18,f19,f20,f24,f25,f26]))
     exact⟨q,o,fJ,eZ,aP,aR,f5,V.bump _ _ (by omega)⟩
 · rintro s aE ⟨q,o,fJ,eZ,aP,aR,ez,V⟩
   rw[Nat.mod_eq_of_lt PJ] at aR
   clear f5 f19
   have f5:=ez
   have b3:=V.cells
   have bW:=ou (e:=false) eZ (show o.length<=1073741824 by omega)
   rw[aR] at bW
   have ey:=w' (show o.length<=A+B by omega)
   have fO:=w_ o
   have aV:=o9 o
   have hle:A+B<=(bU o).length:=by omega
   refine ao [4,5] ?_
   intro F
   simp only[an]
   intro ad ae
   try simp[aJ,f5] at ad ae
   clear f5
   have f4:=ad
   have f5:=ae
   clear ad ae
   rw[show (o.map fun n=>J.int .u32 (Z n))=bU o from rfl] at bW
   repeat' (first
    | refine aC ?_
    | ((fail_if_success (refine aT ?_));(fail_if_success (refine aU ?_));refine aO ?_)
    | ((first|(refine aD aN ?_;simp(disch:=omega) [b3,bW,ey,fO,hle,f4,f5];(try(refine⟨by first|decide|rfl,?_⟩)))|(refine aM ?_;simp(disch:=omega) [b3,bW,ey,fO,hle,f4,f5]));(try(refine ao [4,5] ?_;intro F;simp only[an];intro ad ae;simp(disch:=omega) [b3,bW,ey,fO,hle,f4,f5] at ad ae;clear f4 f5;have f4:=ad;have f5:=ae;clear ad ae)))
    | (refine aL _ (by simp(disch:=omega) [b3,bW,ey,fO,hle,f4,f5];rfl) (fun I=>?_) (fun I=>?_)<;>first|(exfalso;simp(disch:=omega) [b3,bW,ey,fO,hle] at I;done)|(exfalso;simp at I;omega)|(simp at I))
    | ((first|refine aH ?_|refine aQ ?_);simp(disch:=omega) [b3,bW,ey,fO,hle,f4,f5]))
end
section
attribute [local irreducible] ck
attribute [local simp] ed ef dm
noncomputable def Am:FuncId->Option (List J->Option J):=dn [(170,kl),(185,ox)]
theorem GV:∀f T,Am f=some T->br Tryz.prog G f T:=dr (by simp only[List.forall_mem_cons];exact⟨o3,w0,fun _ h=>absurd h (by simp)⟩)
theorem PQ:Am 170=some kl:=rfl
theorem PR:Am 185=some ox:=rfl
attribute [local simp] PQ PR
theorem PS {a L k n:Nat} (aI:a<ay L) (aE:k<=n):a/ay (min k L)%ay (min n L - min k L)=a%ay n/ay k:=by
 by_cases ab:n<=L
 · rw[Nat.min_eq_left (by omega),Nat.min_eq_left ab,<-Nat.mod_mul_right_div_self,<-gw,show k+(n - k)=n by omega]
 · rw[Nat.min_eq_right (show L<=n by omega),Nat.mod_eq_of_lt (Nat.lt_of_lt_of_le aI (l6 (by omega:L<=n)))]
   by_cases h2:k<=L
   · rw[Nat.min_eq_left h2,Nat.mod_eq_of_lt]
     rw[Nat.div_lt_iff_lt_mul (g3 k),<-gw,show L - k+k=L by omega]
     exact aI
   · rw[Nat.min_eq_right (by omega),Nat.sub_self,ft,Nat.mod_one,Nat.div_eq_of_lt (Nat.lt_of_lt_of_le aI (l6 (by omega)))]
noncomputable def p8:List J->Option J:=cd (fun z:Nat × Nat × Nat=>(ah z.1).length<=1000000000/\z.2.1<=z.2.2/\z.2.2<=1000000000000) (fun z=>[aw z.1,bt z.2.1,bt z.2.2]) (fun z=>aw (z.1%ay z.2.2/ay z.2.1))
theorem u9 (z:Nat × Nat × Nat) (h:(ah z.1).length<=1000000000/\z.2.1<=z.2.2/\z.2.2<=1000000000000) {args:List J} (he:args.map J.loose= [aw z.1,bt z.2.1,bt z.2.2]):p8 args=some (aw (z.1%ay z.2.2/ay z.2.1)):=cU (fun z w h=>by first|(simp only[List.cons.injEq,J.int.injEq,J.bool.injEq,J.sl.injEq,cl,cm,ct,cu,cp,b2,b6,cn,bY,true_and,and_true] at h;simp[h];done)|(simp only[J.agg.injEq,List.cons.injEq,J.int.injEq,J.bool.injEq,J.sl.injEq,cl,cm,ct,cu,cp,b2,b6,cn,bY,true_and,and_true] at h;simp[h])) z h he
theorem GW:br Tryz.prog G 252 p8:=by
 refine cG mixed GV Fg fun z aP=>?_
 obtain⟨a,k,n⟩:=z
 obtain⟨cE,aE,ar⟩:=aP
 simp only at cE aE ar|-
 obtain⟨L,a8⟩:∃L,L=(ah a).length:=⟨_,rfl⟩
 have aI:a<ay L:=c5.1 (by omega)
 have bh:=dO a
 have bW:=ou (e:=true) ((bh.drop (min k L)).take (min n L - min k L)) (by simp;omega)
 rw[Nx (bh.drop _),zH bh,dm,PS aI aE,List.map_take,List.map_drop] at bW
 have bJ:=sH k L
 have ca:=sH n L
 have ab:min k L<=min n L:=by omega
 have h2:min n L<=L:=Nat.min_le_right _ _
 generalize a%ay n/ay k=r at*
 generalize ag:min k L=i at*
 generalize aZ:min n L=j at*
 have aG:((ah a).map fun n=>J.int .u32 (Z n)).all (fun e=>e.cells.length == 1)=true:=by simp[J.cells]
 unfold i252
 refine ao [0,1,2,6] fun F=>?_
 simp only[an]
 intro f0 f1 f2 f6
 simp[bj] at f0 f1 f2 f6
 repeat' (first
  | refine aC ?_
  | ((fail_if_success (refine aT ?_));(fail_if_success (refine aU ?_));refine aO ?_)
  | ((first|(refine aD aN ?_;simp(disch:=omega) [<-a8,ag,aZ,bJ,ca,ab,h2,aG,bW,f0,f1,f2,f6];(try(refine⟨by first|decide|rfl,?_⟩)))|(refine aM ?_;simp(disch:=omega) [<-a8,ag,aZ,bJ,ca,ab,h2,aG,bW,f0,f1,f2,f6]));(try(refine ao [0,1,2,6] ?_;intro F;simp only[an];intro U aa af ai;simp(disch:=omega) [<-a8,ag,aZ,bJ,ca,ab,h2,aG,bW,f0,f1,f2,f6] at U aa af ai;clear f0 f1 f2 f6;have f0:=U;have f1:=aa;have f2:=af;have f6:=ai;clear U aa af ai)))
  | (refine aL _ (by simp(disch:=omega) [<-a8,ag,aZ,bJ,ca,ab,h2,aG,bW,f0,f1,f2,f6];rfl) (fun I=>?_) (fun I=>?_)<;>first|(exfalso;simp(disch:=omega) [<-a8,ag,aZ,bJ,ca,ab,h2,aG,bW] at I;done)|(exfalso;simp at I;omega)|(simp at I))
  | ((first|refine aH ?_|refine aQ ?_);simp(disch:=omega) [<-a8,ag,aZ,bJ,ca,ab,h2,aG,bW,f0,f1,f2,f6]))
noncomputable def kG:List J->Option J:=cd (fun z:Nat × Nat=>(ah z.1).length<=1000000000/\(ah z.2).length<=1000000000) (fun z=>[aw z.1,aw z.2]) (fun z=>aw (z.1 - z.2))
theorem An (z:Nat × Nat) (h:(ah z.1).length<=1000000000/\(ah z.2).length<=1000000000) {args:List J} (he:args.map J.loose= [aw z.1,aw z.2]):kG args=some (aw (z.1 - z.2)):=cU (fun z w h=>by first|(simp only[List.cons.injEq,J.int.injEq,J.bool.injEq,J.sl.injEq,cl,cm,ct,cu,cp,b2,b6,cn,bY,true_and,and_true] at h;simp[h];done)|(simp only[J.agg.injEq,List.cons.injEq,J.int.injEq,J.bool.injEq,J.sl.injEq,cl,cm,ct,cu,cp,b2,b6,cn,bY,true_and,and_true] at h;simp[h])) z h he
theorem Ao:br Tryz.prog G 257 kG:=by
 refine cG mixed GV Fj fun z aP=>?_
 obtain⟨a,b⟩:=z
 obtain⟨cE,bU⟩:=aP
 simp only at cE bU|-
 have t:=u4 (a:=a) (b:=b) (e:=false) (e':=false) cE bU
 unfold i257
 by_cases h:a<b
 · rw[if_pos h] at t
   have cK:a - b=0:=by omega
   rw[cK]
   have cM:=fu
   refine ao [0,1,4,5] fun F=>?_
   simp only[an]
   intro f0 f1 f4 f5
   simp[bj] at f0 f1 f4 f5
   repeat' (first
    | refine aC ?_
    | ((fail_if_success (refine aT ?_));(fail_if_success (refine aU ?_));refine aO ?_)
    | ((first|(refine aD aN ?_;simp(disch:=omega) [t,f0,f1,f4,f5];(try(refine⟨by first|decide|rfl,?_⟩)))|(refine aM ?_;simp(disch:=omega) [t,f0,f1,f4,f5]));(try(refine ao [0,1,4,5] ?_;intro F;simp only[an];intro U aa ad ae;simp(disch:=omega) [t,f0,f1,f4,f5] at U aa ad ae;clear f0 f1 f4 f5;have f0:=U;have f1:=aa;have f4:=ad;have f5:=ae;clear U aa ad ae)))
    | (refine aL _ (by simp(disch:=omega) [t,f0,f1,f4,f5];rfl) (fun I=>?_) (fun I=>?_)<;>first|(exfalso;simp(disch:=omega) [t] at I;done)|(exfalso;simp at I;omega)|(simp at I))
    | ((first|refine aH ?_|refine aQ ?_);simp(disch:=omega) [t,f0,f1,f4,f5,cM]))
 · rw[if_neg h] at t
   generalize a - b=c at*
   refine ao [0,1,4,5] fun F=>?_
   simp only[an]
   intro f0 f1 f4 f5
   simp[bj] at f0 f1 f4 f5
   repeat' (first
    | refine aC ?_
    | ((fail_if_success (refine aT ?_));(fail_if_success (refine aU ?_));refine aO ?_)
    | ((first|(refine aD aN ?_;simp(disch:=omega) [t,f0,f1,f4,f5];(try(refine⟨by first|decide|rfl,?_⟩)))|(refine aM ?_;simp(disch:=omega) [t,f0,f1,f4,f5]));(try(refine ao [0,1,4,5] ?_;intro F;simp only[an];intro U aa ad ae;simp(disch:=omega) [t,f0,f1,f4,f5] at U aa ad ae;clear f0 f1 f4 f5;have f0:=U;have f1:=aa;have f4:=ad;have f5:=ae;clear U aa ad ae)))
    | (refine aL _ (by simp(disch:=omega) [t,f0,f1,f4,f5];rfl) (fun I=>?_) (fun I=>?_)<;>first|(exfalso;simp(disch:=omega) [t] at I;done)|(exfalso;simp at I;omega)|(simp at I))
    | ((first|refine aH ?_|refine aQ ?_);simp(disch:=omega) [t,f0,f1,f4,f5]))
theorem Ap:∀z w:Nat × Nat,(fun z:Nat × Nat=>[aw z.1,aw z.2]) z=(fun z:Nat × Nat=>[aw z.1,aw z.2]) w->(fun z:Nat × Nat=>aw (z.1*z.2)) z=(fun z:Nat × Nat=>aw (z.1*z.2)) w:=fun z w h=>by simp only at h|-;first|(simp only[List.cons.injEq,J.int.injEq,J.bool.injEq,J.sl.injEq,cl,cm,ct,cu,cp,b2,b6,cn,bY,true_and,and_true] at h;simp[h];done)|(simp only[J.agg.injEq,List.cons.injEq,J.int.injEq,J.bool.injEq,J.sl.injEq,cl,cm,ct,cu,cp,b2,b6,cn,bY,true_and,and_true] at h;simp[h])
noncomputable def q':List J->Option J:=cd (fun z:Nat × Nat=>(ah z.1).length<=1000000/\(ah z.2).length<=1000000) (fun z:Nat × Nat=>[aw z.1,aw z.2]) (fun z:Nat × Nat=>aw (z.1*z.2))
theorem GX (z:Nat × Nat) (h:(ah z.1).length<=1000000/\(ah z.2).length<=1000000) {args:List J} (he:args.map J.loose= [aw z.1,aw z.2]):q' args=some (aw (z.1*z.2)):=cU Ap z h he
noncomputable def s0 (N:Nat):List J->Option J:=cd (fun z:Nat × Nat=>((ah z.1).length<=1000000/\(ah z.2).length<=1000000)/\(max (ah z.1).length (ah z.2).length)<N) (fun z:Nat × Nat=>[aw z.1,aw z.2]) (fun z:Nat × Nat=>aw (z.1*z.2))
theorem Aq {N:Nat} (z:Nat × Nat) (h:((ah z.1).length<=1000000/\(ah z.2).length<=1000000)/\(max (ah z.1).length (ah z.2).length)<N) {args:List J} (he:args.map J.loose= [aw z.1,aw z.2]):s0 N args=some (aw (z.1*z.2)):=cU Ap z h he
theorem PT (h:∀N,br Tryz.prog G 202 (s0 N)->br Tryz.prog G 202 (s0 (N+1))):br Tryz.prog G 202 q':=En Ap (fun z:Nat × Nat=>max (ah z.1).length (ah z.2).length) h
noncomputable def ra (N:Nat):FuncId->Option (List J->Option J):=dn [(202,s0 N),(203,sZ),(252,p8),(257,kG),(174,g5),(172,lB)]
theorem PU {N:Nat} (h:br Tryz.prog G 202 (s0 N)):∀f T,ra N f=some T->br Tryz.prog G f T:=dr (by simp only[List.forall_mem_cons];exact⟨h,GU,GW,Ao,sT,w2,fun _ h=>absurd h (by simp)⟩)
theorem PV (N:Nat):ra N 202=some (s0 N):=rfl
theorem PW (N:Nat):ra N 203=some sZ:=rfl
theorem PX (N:Nat):ra N 252=some p8:=rfl
theorem PY (N:Nat):ra N 257=some kG:=rfl
theorem PZ (N:Nat):ra N 174=some g5:=rfl
theorem P0 (N:Nat):ra N 172=some lB:=rfl
attribute [local simp] PV PW PX PY PZ P0
theorem P1 {P a0 a1 b0 b1:Nat}:a0*b0+(((a0+a1)*(b0+b1) -(a0*b0+a1*b1))*P+a1*b1*(P*P))=(a0+P*a1)*(b0+P*b1):=by
 have e:(a0+a1)*(b0+b1)=(a0*b0+a1*b1)+(a0*b1+a1*b0):=by grind
 rw[e,Nat.add_sub_cancel_left];grind
theorem GY:br Tryz.prog G 202 q':=by
 refine PT fun N bC=>?_
 refine cG mixed (PU bC) E5 fun z aP=>?_
 obtain⟨a,b⟩:=z
 obtain⟨⟨cE,bU⟩,eN⟩:=aP
 simp only at cE bU eN|-
 obtain⟨L,a8⟩:∃L,L=(ah a).length:=⟨_,rfl⟩
 obtain⟨M,ep⟩:∃M,M=(ah b).length:=⟨_,rfl⟩
 obtain⟨n,ar⟩:∃n,n=max L M:=⟨_,rfl⟩
 have bJ:=uX L M
 have ca:=sH L M
 rw[<-ar] at bJ
 rw[<-a8] at eN cE
 rw[<-ep] at eN bU
 have aI:a<ay n:=c5.1 (by omega)
 have a6:b<ay n:=c5.1 (by omega)
 unfold i202
 by_cases e7:min L M<4
 · have t:=GS (a,b) ⟨by simp only;omega,by simp only;omega⟩ (args:=[aw a,aw b]) (by simp)
   simp only at t
   generalize a*b=c at*
   refine ao [0,1,4,5,6,7,8,9,10,11,12,13,24] fun F=>?_
   simp only[an]
   intro f0 f1 f4 f5 f6 f7 f8 f9 f10 f11 f12 f13 f24
   simp[bj] at f0 f1 f4 f5 f6 f7 f8 f9 f10 f11 f12 f13 f24
   repeat' (first
    | refine aC ?_
    | ((fail_if_success (refine aT ?_));(fail_if_success (refine aU ?_));refine aO ?_)
    | ((first|(refine aD aN ?_;simp(disch:=omega) [<-a8,<-ep,bJ,ca,e7,t,f0,f1,f4,f5,f6,f7,f8,f9,f10,f11,f12,f13,f24];(try(refine⟨by first|decide|rfl,?_⟩)))|(refine aM ?_;simp(disch:=omega) [<-a8,<-ep,bJ,ca,e7,t,f0,f1,f4,f5,f6,f7,f8,f9,f10,f11,f12,f13,f24]));(try(refine ao [0,1,4,5,6,7,8,9,10,11,12,13,24] ?_;intro F;simp only[an];intro U aa ad ae ai au az a2 a5 bl a9 aY cA;simp(disch:=omega) [<-a8,<-ep,bJ,ca,e7,t,f0,f1,f4,f5,f6,f7,f8,f9,f10,f11,f12,f13,f24] at U aa ad ae ai au az a2 a5 bl a9 aY cA;clear f0 f1 f4 f5 f6 f7 f8 f9 f10 f11 f12 f13 f24;have f0:=U;have f1:=aa;have f4:=ad;have f5:=ae;have f6:=ai;have f7:=au;have f8:=az;have f9:=a2;have f10:=a5;have f11:=bl;have f12:=a9;have f13:=aY;have f24:=cA;clear U aa ad ae ai au az a2 a5 bl a9 aY cA)))
    | (refine aL _ (by simp(disch:=omega) [<-a8,<-ep,bJ,ca,e7,t,f0,f1,f4,f5,f6,f7,f8,f9,f10,f11,f12,f13,f24];rfl) (fun I=>?_) (fun I=>?_)<;>first|(exfalso;simp(disch:=omega) [<-a8,<-ep,bJ,ca,e7,t] at I;done)|(exfalso;simp at I;omega)|(simp at I))
    | ((first|refine aH ?_|refine aQ ?_);simp(disch:=omega) [<-a8,<-ep,bJ,ca,e7,t,f0,f1,f4,f5,f6,f7,f8,f9,f10,f11,f12,f13,f24]))
 · obtain⟨k,aE⟩:∃k,k=(n+1)/2:=⟨_,rfl⟩
   have lR:k<n:=by omega
   have k_:∀x,x<ay n->p8 [aw x,bt 0,bt k]=some (aw (x%ay k)):=fun x ak=>by
    have:=u9 (x,0,k) ⟨by simp only;have:=c5.2 ak;omega,Nat.zero_le _,by simp only;omega⟩ (args:=[aw x,bt 0,bt k]) (by simp)
    simpa[ft] using this
   have dS:∀x,x<ay n->p8 [aw x,bt k,bt n]=some (aw (x/ay k)):=fun x ak=>by
    have:=u9 (x,k,n) ⟨by simp only;have:=c5.2 ak;omega,by simp only;omega,by simp only;omega⟩ (args:=[aw x,bt k,bt n]) (by simp)
    simpa[Nat.mod_eq_of_lt ak] using this
   have s3:=k_ a aI
   have rb:=dS a aI
   have s4:=k_ b a6
   have re:=dS b a6
   have sr:∀x,(ah (x%ay k)).length<=k:=fun x=>c5.2 (Nat.mod_lt _ (g3 k))
   have cP:∀x,x<ay n->(ah (x/ay k)).length<=n - k:=fun x ak=>c5.2 (by
    rw[Nat.div_lt_iff_lt_mul (g3 k),<-gw,show n - k+k=n by omega];exact ak)
   have V_:=sr a
   have V':=cP a aI
   have Wa:=sr b
   have Wb:=cP b a6
   have e_:a*b=(a%ay k+ay k*(a/ay k))*(b%ay k+ay k*(b/ay k)):=by rw[Nat.mod_add_div,Nat.mod_add_div]
   rw[e_]
   generalize a%ay k=a0 at*
   generalize a/ay k=a1 at*
   generalize b%ay k=b0 at*
   generalize b/ay k=b1 at*
   have Wc:=kk a0 a1
   have Wd:=kk b0 b1
   have We:=kP a0 b0
   have Wf:=kP a1 b1
   have ls:=kP (a0+a1) (b0+b1)
   have lt:=kk (a0*b0) (a1*b1)
   have lm:=fW (Nat.sub_le ((a0+a1)*(b0+b1)) (a0*b0+a1*b1))
   have fin:=P1 (P:=2^(32*k)) (a0:=a0) (a1:=a1) (b0:=b0) (b1:=b1)
   rw[<-Nat.pow_add,show 32*k+32*k=64*k by omega] at fin
   have P2:(a0+2^(32*k)*a1)*(b0+2^(32*k)*b1)=(a0+ay k*a1)*(b0+ay k*b1):=by rw[lf]
   rw[P2] at fin
   have t1:=Aq (N:=N) (a0,b0) ⟨⟨by simp only;omega,by simp only;omega⟩,by simp only;omega⟩ (args:=[aw a0,aw b0]) (by simp)
   have t2:=Aq (N:=N) (a1,b1) ⟨⟨by simp only;omega,by simp only;omega⟩,by simp only;omega⟩ (args:=[aw a1,aw b1]) (by simp)
   have t3:=Aq (N:=N) (a0+a1,b0+b1) ⟨⟨by simp only;omega,by simp only;omega⟩,by simp only;omega⟩ (args:=[aw (a0+a1),aw (b0+b1)]) (by simp)
   have s1:=mr (a:=a0) (b:=a1) (e:=false) (e':=false) (by omega) (by omega)
   have s2:=mr (a:=b0) (b:=b1) (e:=false) (e':=false) (by omega) (by omega)
   have eT:=mr (a:=a0*b0) (b:=a1*b1) (e:=false) (e':=false) (by omega) (by omega)
   have j_:=An ((a0+a1)*(b0+b1),a0*b0+a1*b1) ⟨by simp only;omega,by simp only;omega⟩ (args:=[aw ((a0+a1)*(b0+b1)),aw (a0*b0+a1*b1)]) (by simp)
   simp only at t1 t2 t3 j_
   generalize (a0+a1)*(b0+b1) -(a0*b0+a1*b1)=mid at*
   have gy:=q6 (a:=mid) (n:=32*k) (e:=false) (by omega) (by omega)
   have gz:=q6 (a:=a1*b1) (n:=64*k) (e:=false) (by omega) (by omega)
   have Cr:=kP mid (2^(32*k))
   have J4:=kP (a1*b1) (2^(64*k))
   have Wg:(ah (2^(32*k))).length<=k+1:=c5.2 (by rw[<-lf,ee];have:=g3 k;omega)
   have Wh:(ah (2^(64*k))).length<=2*k+1:=c5.2 (by rw[show 64*k=32*(2*k) by omega,<-lf,ee];have:=g3 (2*k);omega)
   have j7:=mr (a:=mid*2^(32*k)) (b:=a1*b1*2^(64*k)) (e:=false) (e':=false) (by omega) (by omega)
   have J5:=kk (mid*2^(32*k)) (a1*b1*2^(64*k))
   have gA:=mr (a:=a0*b0) (b:=mid*2^(32*k)+a1*b1*2^(64*k)) (e:=false) (e':=false) (by omega) (by omega)
   rw[fin] at gA
   generalize (a0+ay k*a1)*(b0+ay k*b1)=c at*
   generalize mid*2^(32*k)+a1*b1*2^(64*k)=cz at*
   generalize mid*2^(32*k)=cq at*
   generalize a1*b1*2^(64*k)=db at*
   generalize a0*b0+a1*b1=dg at*
   generalize (a0+a1)*(b0+b1)=gL at*
   generalize a0*b0=hi at*
   generalize a1*b1=gr at*
   generalize a0+a1=lx at*
   generalize b0+b1=Wi at*
   have b4:IntKind.i64.wrap (Z 32*Z k)=Z (32*k):=sy (by omega)
   have dd:IntKind.i64.wrap (Z 64*Z k)=Z (64*k):=sy (by omega)
   have dz:(n+1)/2=k:=aE.symm
   refine ao [0,1,4,5,6,7,8,9,10,11,12,13,24] fun F=>?_
   simp only[an]
   intro f0 f1 f4 f5 f6 f7 f8 f9 f10 f11 f12 f13 f24
   simp[bj] at f0 f1 f4 f5 f6 f7 f8 f9 f10 f11 f12 f13 f24
   repeat' (first
    | refine aC ?_
    | ((fail_if_success (refine aT ?_));(fail_if_success (refine aU ?_));refine aO ?_)
    | ((first|(refine aD aN ?_;simp(disch:=omega) [<-a8,<-ep,bJ,ca,e7,b4,dd,dz,s3,rb,s4,re,t1,t2,t3,s1,s2,eT,j_,gy,gz,j7,gA,f0,f1,f4,f5,f6,f7,f8,f9,f10,f11,f12,f13,f24];(try(refine⟨by first|decide|rfl,?_⟩)))|(refine aM ?_;simp(disch:=omega) [<-a8,<-ep,bJ,ca,e7,b4,dd,dz,s3,rb,s4,re,t1,t2,t3,s1,s2,eT,j_,gy,gz,j7,gA,f0,f1,f4,f5,f6,f7,f8,f9,f10,f11,f12,f13,f24]));(try(refine ao [0,1,4,5,6,7,8,9,10,11,12,13,24] ?_;intro F;simp only[an];intro U aa ad ae ai au az a2 a5 bl a9 aY cA;simp(disch:=omega) [<-a8,<-ep,bJ,ca,e7,b4,dd,dz,s3,rb,s4,re,t1,t2,t3,s1,s2,eT,j_,gy,gz,j7,gA,f0,f1,f4,f5,f6,f7,f8,f9,f10,f11,f12,f13,f24] at U aa ad ae ai au az a2 a5 bl a9 aY cA;clear f0 f1 f4 f5 f6 f7 f8 f9 f10 f11 f12 f13 f24;have f0:=U;have f1:=aa;have f4:=ad;have f5:=ae;have f6:=ai;have f7:=au;have f8:=az;have f9:=a2;have f10:=a5;have f11:=bl;have f12:=a9;have f13:=aY;have f24:=cA;clear U aa ad ae ai au az a2 a5 bl a9 aY cA)))
    | (refine aL _ (by simp(disch:=omega) [<-a8,<-ep,bJ,ca,e7,b4,dd,dz,s3,rb,s4,re,t1,t2,t3,s1,s2,eT,j_,gy,gz,j7,gA,f0,f1,f4,f5,f6,f7,f8,f9,f10,f11,f12,f13,f24];rfl) (fun I=>?_) (fun I=>?_)<;>first|(exfalso;simp(disch:=omega) [<-a8,<-ep,bJ,ca,e7,b4,dd,dz,s3,rb,s4,re,t1,t2,t3,s1,s2,eT,j_,gy,gz,j7,gA] at I;done)|(exfalso;simp at I;omega)|(simp at I))
    | ((first|refine aH ?_|refine aQ ?_);simp(disch:=omega) [<-a8,<-ep,bJ,ca,e7,b4,dd,dz,s3,rb,s4,re,t1,t2,t3,s1,s2,eT,j_,gy,gz,j7,gA,f0,f1,f4,f5,f6,f7,f8,f9,f10,f11,f12,f13,f24]))
end
section
attribute [local irreducible] ck
attribute [local simp] ed ef dm
noncomputable def xb:FuncId->Option (List J->Option J):=dn [(170,kl),(185,ox),(257,kG)]
theorem GZ:∀f T,xb f=some T->br Tryz.prog G f T:=dr (by simp only[List.forall_mem_cons];exact⟨o3,w0,Ao,fun _ h=>absurd h (by simp)⟩)
theorem P3:xb 170=some kl:=rfl
theorem P4:xb 185=some ox:=rfl
theorem P5:xb 257=some kG:=rfl
attribute [local simp] P3 P4 P5
def G0 (a L m:Nat) (s:a'):Prop:=∃q o r,o.length=L/\Small o/\(∀j,j<m->aS o j=0)/\r<3/\3*val o+ay m*r=ay m*(a/ay m)/\s.F 3= .ref q 0 L L/\s.F 4=fj r/\eU s.h q o
theorem P6 {o o' P B y v q r c d:Nat} (aR:o'+P*y=o+P*v) (bd:y=0) (h:3*o+P*B*c=P*B*q) (bA:c*B+d=3*v+r):3*o'+P*r=P*(d+B*q):=by
 subst bd
 have e:P*(c*B+d)=P*(3*v+r):=by rw[bA]
 grind
theorem G1 {r x:Nat} (ak:x<4294967296):r*4294967296|||x=r*4294967296+x:=by
 have e:(4294967296:Nat)=2^32:=by decide
 rw[e] at ak|-
 rw[Nat.mul_comm,Nat.two_pow_add_eq_or_of_lt ak]
theorem P7 {a o m r x:Nat} (ba:r<3) (ak:x<4294967296) (fK:x=a/ay m%4294967296) (aR:3*o+ay (m+1)*r=ay (m+1)*(a/ay (m+1))):
 ∃R,r*4294967296=R/\R|||x=R+x/\R+x<18446744073709551616/\(R+x)/3<4294967296/\(R+x)/3<18446744073709551616/\
  ∀o',o'+ay m*0=o+ay m*((R+x)/3)->3*o'+ay m*((R+x)%3)=ay m*(a/ay m):=by
 refine⟨r*4294967296,rfl,G1 ak,by omega,by omega,by omega,fun o' aK=>?_⟩
 · rw[ee] at aR
   have:=P6 aK rfl aR (show r*4294967296+x=3*((r*4294967296+x)/3)+(r*4294967296+x)%3 by omega)
   rw[this,fK,<-ee,pW,Nat.mod_add_div]
theorem kR:(Z 0<=(-1:Int))=False:=eq_false (by decide)
theorem kS:(Z 0<(3:Int))=True:=eq_true (by decide)
theorem kT:(Z 1<(3:Int))=True:=eq_true (by decide)
theorem kU:(Z 2<(3:Int))=True:=eq_true (by decide)
noncomputable def rf:List J->Option J:=cd (fun z:Nat=>(ah z).length<=100000000/\z%3=0) (fun z=>[aw z]) (fun z=>aw (z/3))
theorem P8 (z:Nat) (h:(ah z).length<=100000000/\z%3=0) {args:List J} (he:args.map J.loose= [aw z]):rf args=some (aw (z/3)):=cU (fun z w h=>by first|(simp only[List.cons.injEq,J.int.injEq,J.bool.injEq,J.sl.injEq,cl,cm,ct,cu,cp,b2,b6,cn,bY,true_and,and_true] at h;simp[h];done)|(simp only[J.agg.injEq,List.cons.injEq,J.int.injEq,J.bool.injEq,J.sl.injEq,cl,cm,ct,cu,cp,b2,b6,cn,bY,true_and,and_true] at h;simp[h])) z h he
theorem P9:br Tryz.prog G 258 rf:=by
 refine cG mixed GZ Fk fun a aP=>?_
 obtain⟨cE,aX⟩:=aP
 have bh:=dO a
 obtain⟨L,a8⟩:∃L,L=(ah a).length:=⟨_,rfl⟩
 have aI:a<ay L:=c5.1 (by omega)
 have aW:Z L*4<=140737488355328:=by simp only[Z];omega
 have gh:IntKind.i64.wrap (Z L - Z 1)=kE L:=l7 (by omega)
 unfold i258
 refine ao [0,2,3,4,5,13] fun F=>?_
 simp only[an]
 intro f0 f2 f3 f4 f5 f13
 simp[bj] at f0 f2 f3 f4 f5 f13
 repeat' (first
  | refine aC ?_
  | ((fail_if_success (refine aT ?_));(fail_if_success (refine aU ?_));refine aO ?_)
  | ((first|(refine aD aN ?_;simp(disch:=omega) [<-a8,aW,gh,g6,f0,f2,f3,f4,f5,f13];(try(refine⟨by first|decide|rfl,?_⟩)))|(refine aM ?_;simp(disch:=omega) [<-a8,aW,gh,g6,f0,f2,f3,f4,f5,f13]));(try(refine ao [0,2,3,4,5,13] ?_;intro F;simp only[an];intro U af al ad ae aY;simp(disch:=omega) [<-a8,aW,gh,g6,f0,f2,f3,f4,f5,f13] at U af al ad ae aY;clear f0 f2 f3 f4 f5 f13;have f0:=U;have f2:=af;have f3:=al;have f4:=ad;have f5:=ae;have f13:=aY;clear U af al ad ae aY)))
  | (refine aL _ (by simp(disch:=omega) [<-a8,aW,gh,g6,f0,f2,f3,f4,f5,f13];rfl) (fun I=>?_) (fun I=>?_)<;>first|(exfalso;simp(disch:=omega) [<-a8,aW,gh,g6] at I;done)|(exfalso;simp at I;omega)|(simp at I))
  | ((first|refine aH ?_|refine aQ ?_);simp(disch:=omega) [<-a8,aW,gh,g6,f0,f2,f3,f4,f5,f13]))
 refine oh (fun m s=>m<=L/\G0 a L m s/\s.F 5= .int .i64 (kE m)) (G0 a L 0) (fun _=>False) L ?_ ?_ ?_ (fun _ _ h=>h.elim)
 · refine⟨Nat.le_refl _,⟨_,List.replicate L 0,0,by simp,p2 _,fun j _=>wS _ _,by decide,by simp[sF,Nat.div_eq_of_lt aI],f3,f4,⟨by simp[aF],by simp,by simp⟩⟩,f5⟩
 · rintro m s aE ⟨hm,⟨q,o,r,fJ,eZ,aP,ba,aR,e6,hE,V⟩,ez⟩
   replace f0:=(aE 0 rfl).trans f0
   clear f3 f4 f5
   have f3:=e6
   have f4:=hE
   have f5:=ez
   refine ao [0,3,4,5,13] ?_
   intro F
   simp only[an]
   intro U al ad ae aY
   try simp[aJ,f0,f3,f4,f5] at U al ad ae aY
   clear f0 f3 f4 f5
   have f0:=U
   have f3:=al
   have f4:=ad
   have f5:=ae
   have f13:=aY
   clear U al ad ae aY
   cases m with
   | zero=>
     rw[qX] at f5
     repeat' (first
      | refine aC ?_
      | ((fail_if_success (refine aT ?_));(fail_if_success (refine aU ?_));refine aO ?_)
      | ((first|(refine aD aN ?_;simp(disch:=omega) [kR,f0,f3,f4,f5,f13];(try(refine⟨by first|decide|rfl,?_⟩)))|(refine aM ?_;simp(disch:=omega) [kR,f0,f3,f4,f5,f13]));(try(refine ao [0,3,4,5,13] ?_;intro F;simp only[an];intro U al ad ae aY;simp(disch:=omega) [kR,f0,f3,f4,f5,f13] at U al ad ae aY;clear f0 f3 f4 f5 f13;have f0:=U;have f3:=al;have f4:=ad;have f5:=ae;have f13:=aY;clear U al ad ae aY)))
      | (refine aL _ (by simp(disch:=omega) [kR,f0,f3,f4,f5,f13];rfl) (fun I=>?_) (fun I=>?_)<;>first|(exfalso;simp(disch:=omega) [kR] at I;done)|(exfalso;simp at I;omega)|(simp at I))
      | ((first|refine aH ?_|refine aQ ?_);simp(disch:=omega) [kR,f0,f3,f4,f5,f13]))
     exact⟨q,o,r,fJ,eZ,aP,ba,aR,f3,f4,V.bump _ _ (by omega)⟩
   | succ m=>
     rw[sI] at f5
     have ak:=bh.aS m
     have j9:=(kj (show m<(ah a).length by omega)).symm
     have xa:=fV a m
     have go:=jQ (show m<o.length by omega)
     have sz:=ko (show 0<o.length by omega)
     generalize fK:aS (ah a) m=x at*
     obtain⟨R,sl,dQ,mx,ot,s5,qZ⟩:=P7 ba ak xa aR
     have st:=oy o m ((R+x)/3)
     have b3:=V.cells
     have c2:=V.c1
     have gh:IntKind.i64.wrap (Z m - Z 1)=kE m:=l7 (by omega)
     have p3:m<L:=by omega
     clear aR xa
     repeat' (first
      | refine aC ?_
      | ((fail_if_success (refine aT ?_));(fail_if_success (refine aU ?_));refine aO ?_)
      | ((first|(refine aD aN ?_;simp(disch:=omega) [b3,c2,j9,go,fK,sl,dQ,mx,s5,ot,sz,st,gh,p3,<-a8,f0,f3,f4,f5,f13];(try(refine⟨by first|decide|rfl,?_⟩)))|(refine aM ?_;simp(disch:=omega) [b3,c2,j9,go,fK,sl,dQ,mx,s5,ot,sz,st,gh,p3,<-a8,f0,f3,f4,f5,f13]));(try(refine ao [0,3,4,5,13] ?_;intro F;simp only[an];intro U al ad ae aY;simp(disch:=omega) [b3,c2,j9,go,fK,sl,dQ,mx,s5,ot,sz,st,gh,p3,<-a8,f0,f3,f4,f5,f13] at U al ad ae aY;clear f0 f3 f4 f5 f13;have f0:=U;have f3:=al;have f4:=ad;have f5:=ae;have f13:=aY;clear U al ad ae aY)))
      | (refine aL _ (by simp(disch:=omega) [b3,c2,j9,go,fK,sl,dQ,mx,s5,ot,sz,st,gh,p3,<-a8,f0,f3,f4,f5,f13];rfl) (fun I=>?_) (fun I=>?_)<;>first|(exfalso;simp(disch:=omega) [b3,c2,j9,go,fK,sl,dQ,mx,s5,ot,sz,st,gh,p3,<-a8] at I;done)|(exfalso;simp at I;omega)|(simp at I))
      | ((first|refine aH ?_|refine aQ ?_);simp(disch:=omega) [b3,c2,j9,go,fK,sl,dQ,mx,s5,ot,sz,st,gh,p3,<-a8,f0,f3,f4,f5,f13]))
     have g8:=nM ((R+x)/3) (show m<o.length by omega)
     rw[aP m (by omega)] at g8
     refine⟨m,Nat.lt_succ_self m,by omega,⟨q,o.set m ((R+x)/3),(R+x)%3,by rw[List.length_set];exact fJ,nN eZ ot,fun j aZ=>?_,by omega,qZ _ g8,f3,f4,V.put _ _ _ (by omega)⟩,rfl⟩
     · rw[oo _ _ (by omega),if_neg (by omega)]
       exact aP j (by omega)
 · rintro s aE ⟨q,o,r,fJ,eZ,aP,ba,aR,e6,hE,V⟩
   rw[ft,Nat.div_one] at aR
   have lq:val o=a/3:=by omega
   clear f3 f4 f5
   have f3:=e6
   have b3:=V.cells
   have bW:=ou (e:=false) eZ (show o.length<=1073741824 by omega)
   rw[lq] at bW
   have ey:=w' (show o.length<=L by omega)
   have fO:=w_ o
   have aV:=o9 o
   have hle:L<=(bU o).length:=by omega
   refine ao [2,3] ?_
   intro F
   simp only[an]
   intro af al
   try simp[aJ,f3] at af al
   clear f3
   have f2:=af
   have f3:=al
   clear af al
   rw[show (o.map fun n=>J.int .u32 (Z n))=bU o from rfl] at bW
   repeat' (first
    | refine aC ?_
    | ((fail_if_success (refine aT ?_));(fail_if_success (refine aU ?_));refine aO ?_)
    | ((first|(refine aD aN ?_;simp(disch:=omega) [b3,bW,ey,fO,hle,f2,f3];(try(refine⟨by first|decide|rfl,?_⟩)))|(refine aM ?_;simp(disch:=omega) [b3,bW,ey,fO,hle,f2,f3]));(try(refine ao [2,3] ?_;intro F;simp only[an];intro af al;simp(disch:=omega) [b3,bW,ey,fO,hle,f2,f3] at af al;clear f2 f3;have f2:=af;have f3:=al;clear af al)))
    | (refine aL _ (by simp(disch:=omega) [b3,bW,ey,fO,hle,f2,f3];rfl) (fun I=>?_) (fun I=>?_)<;>first|(exfalso;simp(disch:=omega) [b3,bW,ey,fO,hle] at I;done)|(exfalso;simp at I;omega)|(simp at I))
    | ((first|refine aH ?_|refine aQ ?_);simp(disch:=omega) [b3,bW,ey,fO,hle,f2,f3]))
noncomputable def xc:List J->Option J:=cd (fun z:Nat × Nat=>(ah z.1).length<=1000000000/\(ah z.2).length<=1000000000) (fun z=>[aw z.1,aw z.2]) (fun z=> .ch [aw (if z.1<z.2 then z.2 - z.1 else z.1 - z.2),.bool (decide (z.1<z.2))])
theorem P_ (z:Nat × Nat) (h:(ah z.1).length<=1000000000/\(ah z.2).length<=1000000000) {args:List J} (he:args.map J.loose= [aw z.1,aw z.2]):xc args=some (.ch [aw (if z.1<z.2 then z.2 - z.1 else z.1 - z.2),.bool (decide (z.1<z.2))]):=cU (fun z w h=>by first|(simp only[List.cons.injEq,J.int.injEq,J.bool.injEq,J.sl.injEq,cl,cm,ct,cu,cp,b2,b6,cn,bY,true_and,and_true] at h;simp[h];done)|(simp only[J.agg.injEq,List.cons.injEq,J.int.injEq,J.bool.injEq,J.sl.injEq,cl,cm,ct,cu,cp,b2,b6,cn,bY,true_and,and_true] at h;simp[h])) z h he
theorem P':br Tryz.prog G 280 xc:=by
 refine cG mixed GZ Fv fun z aP=>?_
 obtain⟨a,b⟩:=z
 obtain⟨cE,bU⟩:=aP
 simp only at cE bU|-
 have t:=u4 (a:=a) (b:=b) (e:=false) (e':=false) cE bU
 unfold i280
 by_cases h:a<b
 · rw[if_pos h] at t
   have t2:=An (b,a) ⟨bU,cE⟩ (args:=[aw b,aw a]) (by simp)
   simp only at t2
   rw[if_pos h,decide_eq_true h]
   generalize b - a=c at*
   refine ao [0,1,4,5,6,7,14] fun F=>?_
   simp only[an]
   intro f0 f1 f4 f5 f6 f7 f14
   simp[bj] at f0 f1 f4 f5 f6 f7 f14
   repeat' (first
    | refine aC ?_
    | ((fail_if_success (refine aT ?_));(fail_if_success (refine aU ?_));refine aO ?_)
    | ((first|(refine aD aN ?_;simp(disch:=omega) [t,t2,f0,f1,f4,f5,f6,f7,f14];(try(refine⟨by first|decide|rfl,?_⟩)))|(refine aM ?_;simp(disch:=omega) [t,t2,f0,f1,f4,f5,f6,f7,f14]));(try(refine ao [0,1,4,5,6,7,14] ?_;intro F;simp only[an];intro U aa ad ae ai au bq;simp(disch:=omega) [t,t2,f0,f1,f4,f5,f6,f7,f14] at U aa ad ae ai au bq;clear f0 f1 f4 f5 f6 f7 f14;have f0:=U;have f1:=aa;have f4:=ad;have f5:=ae;have f6:=ai;have f7:=au;have f14:=bq;clear U aa ad ae ai au bq)))
    | (refine aL _ (by simp(disch:=omega) [t,t2,f0,f1,f4,f5,f6,f7,f14];rfl) (fun I=>?_) (fun I=>?_)<;>first|(exfalso;simp(disch:=omega) [t,t2] at I;done)|(exfalso;simp at I;omega)|(simp at I))
    | ((first|refine aH ?_|refine aQ ?_);simp(disch:=omega) [t,t2,f0,f1,f4,f5,f6,f7,f14]))
 · rw[if_neg h] at t
   rw[if_neg h,decide_eq_false h]
   generalize a - b=c at*
   refine ao [0,1,4,5,6,7,14] fun F=>?_
   simp only[an]
   intro f0 f1 f4 f5 f6 f7 f14
   simp[bj] at f0 f1 f4 f5 f6 f7 f14
   repeat' (first
    | refine aC ?_
    | ((fail_if_success (refine aT ?_));(fail_if_success (refine aU ?_));refine aO ?_)
    | ((first|(refine aD aN ?_;simp(disch:=omega) [t,f0,f1,f4,f5,f6,f7,f14];(try(refine⟨by first|decide|rfl,?_⟩)))|(refine aM ?_;simp(disch:=omega) [t,f0,f1,f4,f5,f6,f7,f14]));(try(refine ao [0,1,4,5,6,7,14] ?_;intro F;simp only[an];intro U aa ad ae ai au bq;simp(disch:=omega) [t,f0,f1,f4,f5,f6,f7,f14] at U aa ad ae ai au bq;clear f0 f1 f4 f5 f6 f7 f14;have f0:=U;have f1:=aa;have f4:=ad;have f5:=ae;have f6:=ai;have f7:=au;have f14:=bq;clear U aa ad ae ai au bq)))
    | (refine aL _ (by simp(disch:=omega) [t,f0,f1,f4,f5,f6,f7,f14];rfl) (fun I=>?_) (fun I=>?_)<;>first|(exfalso;simp(disch:=omega) [t] at I;done)|(exfalso;simp at I;omega)|(simp at I))
    | ((first|refine aH ?_|refine aQ ?_);simp(disch:=omega) [t,f0,f1,f4,f5,f6,f7,f14]))
noncomputable def xd:FuncId->Option (List J->Option J):=dn [(174,g5),(172,lB),(280,xc)]
theorem Qa:∀f T,xd f=some T->br Tryz.prog G f T:=dr (by simp only[List.forall_mem_cons];exact⟨sT,w2,P',fun _ h=>absurd h (by simp)⟩)
theorem Qb:xd 174=some g5:=rfl
theorem Qc:xd 172=some lB:=rfl
theorem Qd:xd 280=some xc:=rfl
attribute [local simp] Qb Qc Qd
def lS (a b c:Nat):Nat:=if a+c<b then b -(a+c) else a+c - b
noncomputable def s6:List J->Option J:=cd (fun z:Nat × Nat × Nat=>(ah z.1).length<=10000000/\(ah z.2.1).length<=10000000/\(ah z.2.2).length<=10000000) (fun z=>[.agg [aw z.1,aw z.2.1,aw z.2.2]]) (fun z=> .ch [aw (z.1+z.2.2+z.2.1),aw (lS z.1 z.2.1 z.2.2),aw (z.1+(z.2.1*2^1+z.2.2*2^2)),.bool (decide (z.1+z.2.2<z.2.1))])
theorem G2 (z:Nat × Nat × Nat) (h:(ah z.1).length<=10000000/\(ah z.2.1).length<=10000000/\(ah z.2.2).length<=10000000) {args:List J} (he:args.map J.loose= [.agg [aw z.1,aw z.2.1,aw z.2.2]]):s6 args=some (.ch [aw (z.1+z.2.2+z.2.1),aw (lS z.1 z.2.1 z.2.2),aw (z.1+(z.2.1*2^1+z.2.2*2^2)),.bool (decide (z.1+z.2.2<z.2.1))]):=cU (fun z w h=>by first|(simp only[List.cons.injEq,J.int.injEq,J.bool.injEq,J.sl.injEq,cl,cm,ct,cu,cp,b2,b6,cn,bY,true_and,and_true] at h;simp[h];done)|(simp only[J.agg.injEq,List.cons.injEq,J.int.injEq,J.bool.injEq,J.sl.injEq,cl,cm,ct,cu,cp,b2,b6,cn,bY,true_and,and_true] at h;simp[h])) z h he
theorem Qe:br Tryz.prog G 256 s6:=by
 refine cG mixed Qa Fi fun z aP=>?_
 obtain⟨a,b,c⟩:=z
 obtain⟨cE,bU,lc⟩:=aP
 simp only at cE bU lc|-
 have Wj:=kk a c
 have t1:=mr (a:=a) (b:=c) (e:=false) (e':=false) (by omega) (by omega)
 have t2:=mr (a:=a+c) (b:=b) (e:=false) (e':=false) (by omega) (by omega)
 have t3:=P_ (a+c,b) ⟨by simp only;omega,by simp only;omega⟩ (args:=[aw (a+c),aw b]) (by simp)
 have t4:=q6 (a:=b) (n:=1) (e:=false) (by omega) (by omega)
 have t5:=q6 (a:=c) (n:=2) (e:=false) (by omega) (by omega)
 have xe:=kP b (2^1)
 have Wk:=kP c (2^2)
 have ad:(ah (2^1)).length<=1:=c5.2 (by rw[sE];decide)
 have ae:(ah (2^2)).length<=1:=c5.2 (by rw[sE];decide)
 have Wl:=kk (b*2^1) (c*2^2)
 have t6:=mr (a:=b*2^1) (b:=c*2^2) (e:=false) (e':=false) (by omega) (by omega)
 have t7:=mr (a:=a) (b:=b*2^1+c*2^2) (e:=false) (e':=false) (by omega) (by omega)
 simp only at t3
 rw[show (if a+c<b then b -(a+c) else a+c - b)=lS a b c from rfl] at t3
 generalize decide (a+c<b)=neg at*
 generalize lS a b c=Wm at*
 generalize a+(b*2^1+c*2^2)=cz at*
 generalize b*2^1+c*2^2=cq at*
 generalize b*2^1=db at*
 generalize c*2^2=dg at*
 generalize a+c+b=gL at*
 generalize a+c=hi at*
 unfold i256
 refine ao [0,1,2,3,4,5,6] fun F=>?_
 simp only[an]
 intro f0 f1 f2 f3 f4 f5 f6
 simp[bj] at f0 f1 f2 f3 f4 f5 f6
 repeat' (first
  | refine aC ?_
  | ((fail_if_success (refine aT ?_));(fail_if_success (refine aU ?_));refine aO ?_)
  | ((first|(refine aD aN ?_;simp(disch:=omega) [kS,kT,kU,t1,t2,t3,t4,t5,t6,t7,f0,f1,f2,f3,f4,f5,f6];(try(refine⟨by first|decide|rfl,?_⟩)))|(refine aM ?_;simp(disch:=omega) [kS,kT,kU,t1,t2,t3,t4,t5,t6,t7,f0,f1,f2,f3,f4,f5,f6]));(try(refine ao [0,1,2,3,4,5,6] ?_;intro F;simp only[an];intro U aa af al ad ae ai;simp(disch:=omega) [kS,kT,kU,t1,t2,t3,t4,t5,t6,t7,f0,f1,f2,f3,f4,f5,f6] at U aa af al ad ae ai;clear f0 f1 f2 f3 f4 f5 f6;have f0:=U;have f1:=aa;have f2:=af;have f3:=al;have f4:=ad;have f5:=ae;have f6:=ai;clear U aa af al ad ae ai)))
  | (refine aL _ (by simp(disch:=omega) [kS,kT,kU,t1,t2,t3,t4,t5,t6,t7,f0,f1,f2,f3,f4,f5,f6];rfl) (fun I=>?_) (fun I=>?_)<;>first|(exfalso;simp(disch:=omega) [kS,kT,kU,t1,t2,t3,t4,t5,t6,t7] at I;done)|(exfalso;simp at I;omega)|(simp at I))
  | ((first|refine aH ?_|refine aQ ?_);simp(disch:=omega) [kS,kT,kU,t1,t2,t3,t4,t5,t6,t7,f0,f1,f2,f3,f4,f5,f6]))
end
end
section
set_option maxHeartbeats 8000000
open Go Go.Eng Go.RowKit
def two (ag cH:Nat):Nat:=ag*4294967296+cH
theorem Ar {ag cH:Nat} (h:ag<4294967296) (h2:cH<4294967296):∃R,ag*4294967296=R/\R|||cH=two ag cH/\R<18446744073709551616/\two ag cH<18446744073709551616:=
 ⟨_,rfl,G1 h2,by omega,by simp only[two];omega⟩
theorem G3 {ag cH y:Nat} (h:ag<y) (h2:cH<4294967296) (bd:y<4294967296):two ag cH/y<4294967296/\two ag cH%y<4294967296:=by
 refine⟨?_,Nat.lt_trans (Nat.mod_lt _ (by omega)) bd⟩
 rw[Nat.div_lt_iff_lt_mul (by omega),two]
 have aX:(ag+1)*4294967296<=y*4294967296:=Nat.mul_le_mul_right _ h
 rw[Nat.add_mul] at aX
 rw[Nat.mul_comm 4294967296]
 omega
def lD (x2 x1 x0 y1 y0:Nat):Nat:=min (two (two x2 x1) x0/two y1 y0) 4294967295
theorem G4 {x2 x1 x0 y1 y0:Nat}:lD x2 x1 x0 y1 y0<=4294967295:=Nat.min_le_right _ _
theorem Qf {q r y1 y0 x2 x1 x0:Nat} (bc:q*y1+r=two x2 x1) (h:q*y0<=two r x0):q*two y1 y0<=two (two x2 x1) x0:=by
 rw[<-bc];simp only[two] at*;grind
theorem Qg {q r y1 y0 x2 x1 x0:Nat} (bc:q*y1+r=two x2 x1) (h:two r x0<q*y0):two (two x2 x1) x0<q*two y1 y0:=by
 rw[<-bc];simp only[two] at*;grind
theorem G5 {q r y1 y0 x2 x1 x0:Nat} (bd:y1≠0) (bc:q*y1+r=two x2 x1) (qz:lD x2 x1 x0 y1 y0<=q) (ab:q<4294967296) (h:q*y0<=two r x0):q=lD x2 x1 x0 y1 y0:=by
 have h2:q<=two (two x2 x1) x0/two y1 y0:=(Nat.le_div_iff_mul_le (by simp only[two];omega)).2 (Qf bc h)
 unfold lD at*;omega
theorem Qh {q r y1 y0 x2 x1 x0:Nat} (bd:y1≠0) (bc:q*y1+r=two x2 x1) (h:4294967296<=q\/two r x0<q*y0):lD x2 x1 x0 y1 y0<=q - 1/\1<=q:=by
 rcases h with h|h
 · have:=G4 (x2:=x2) (x1:=x1) (x0:=x0) (y1:=y1) (y0:=y0);omega
 · have h2:two (two x2 x1) x0/two y1 y0<q:=(Nat.div_lt_iff_lt_mul (by simp only[two];omega)).2 (Qg bc h)
   unfold lD
   generalize two (two x2 x1) x0/two y1 y0=d at*
   omega
theorem Qi {q r y1 y0 x2 x1 x0:Nat} (bd:y1≠0) (ak:x2<=y1) (Qj:x1<4294967296) (jU:y0<4294967296) (bc:q*y1+r=two x2 x1) (qz:lD x2 x1 x0 y1 y0<=q) (ba:4294967296<=r):q=lD x2 x1 x0 y1 y0:=by
 have ab:q*y1<4294967296*y1:=by
  have:x2*4294967296<=y1*4294967296:=Nat.mul_le_mul_right _ ak
  simp only[two] at bc
  rw[Nat.mul_comm 4294967296]
  omega
 have h2:q<4294967296:=Nat.lt_of_mul_lt_mul_right ab
 refine G5 bd bc qz h2 ?_
 have aX:q*y0<=4294967295*4294967295:=Nat.mul_le_mul (by omega) (by omega)
 simp only[two]
 omega
theorem Qk {y1 x2 x1 x0 y0:Nat} (bd:y1≠0) (fK:x0<4294967296):lD x2 x1 x0 y1 y0<=two x2 x1/y1:=by
 have bA:=Nat.div_add_mod (two x2 x1) y1
 have hm:=Nat.mod_lt (two x2 x1) (Nat.pos_of_ne_zero bd)
 have:two (two x2 x1) x0/two y1 y0<two x2 x1/y1+1:=by
  generalize two x2 x1=t at*
  rw[Nat.div_lt_iff_lt_mul (by simp only[two];omega)]
  generalize t/y1=q at*
  generalize t%y1=r at*
  subst bA
  simp only[two]
  have e:(q+1)*(y1*4294967296+y0)=q*y1*4294967296+y1*4294967296+(q+1)*y0:=by grind
  have aB:(r+1)*4294967296<=y1*4294967296:=Nat.mul_le_mul_right _ hm
  rw[e,Nat.mul_comm y1 q]
  rw[Nat.add_mul] at aB
  rw[Nat.add_mul]
  omega
 unfold lD;omega
end
section
set_option maxHeartbeats 8000000
open Go Go.Eng Go.RowKit
attribute [local simp] bx.m bx.o bx.n bx.g gZ eQ df c7 dj evalOp.eq_1 evalOp.eq_2 evalOp.eq_3 evalOp.eq_4 evalOp.eq_5 evalOp.eq_6 evalOp.eq_7 evalOp.eq_8 evalOp.eq_9 evalOp.eq_10 evalOp.eq_11 evalOp.eq_12 evalOp.eq_13 evalOp.eq_14 evalOp.eq_15 evalOp.eq_16 evalOp.eq_17 evalOp.eq_18 evalOp.eq_19 evalOp.eq_20 evalOp.eq_21 evalOp.eq_22 evalOp.eq_23 evalOp.eq_24 evalOp.eq_25 evalOp.eq_27 evalOp.eq_28 evalOp.eq_29 jK bf.ev c6 aF aA.new bj J.cells J.c0 J.ew J.eA hF hH hG hI hK hJ iX iY iZ gm gn cut partOf bound elems ja jb jc jd je jf jg jh ji jj jk jl g2 jm jn jo jq jr js jt ju jv jw jx jy jz jA jB jC jD jE jF jG jH jI jJ eP eJ eB fA hL g0 aA.close aA.set hr jL jM jN i' g1 gv fT fs gf hn gM gg ho hp hq fx fy fz fv hM bY hj hN hk hO hP fq hQ fr hR hS hT gd iW hU hV hW hX hY hZ h0 h1 h3 h4 h5 h6 h7 h8 h9 h_ h' ia ib hl ic ie ig ih ij ik il im iq ir iu iv iw ix iy
attribute [local simp high] iT iU iV iz iA iB iC iD iE iF iG iH iI iJ iK iL iM iN iO iP iQ iR iS
attribute [local simp] aJ List.getElem?_cons_zero List.getElem?_cons_succ eH dp fP Nat.mod_eq_of_lt jY jZ j0 j1 fU j2 j3 j4
section
attribute [local irreducible] ck
attribute [local simp] ed ef dm
noncomputable def G6:FuncId->Option (List J->Option J):=dn [(266,wX)]
theorem As:∀f T,G6 f=some T->br Tryz.prog G f T:=dr (by simp only[List.forall_mem_cons];exact⟨OB,fun _ h=>absurd h (by simp)⟩)
theorem Ql:G6 266=some wX:=rfl
attribute [local simp] Ql
noncomputable def xf:List J->Option J:=cd (fun z:Nat × Nat × Nat=>z.1<z.2.2/\z.2.1<4294967296/\z.2.2<4294967296) (fun z=>[bM z.1,bM z.2.1,bM z.2.2]) (fun z=> .ch [bM (two z.1 z.2.1/z.2.2),bM (two z.1 z.2.1%z.2.2)])
theorem Qm (z:Nat × Nat × Nat) (h:z.1<z.2.2/\z.2.1<4294967296/\z.2.2<4294967296) {args:List J} (he:args.map J.loose= [bM z.1,bM z.2.1,bM z.2.2]):xf args=some (.ch [bM (two z.1 z.2.1/z.2.2),bM (two z.1 z.2.1%z.2.2)]):=cU (fun z w h=>by first|(simp only[List.cons.injEq,J.int.injEq,J.bool.injEq,J.sl.injEq,cl,cm,ct,cu,cp,b2,b6,cn,bY,true_and,and_true] at h;simp[h];done)|(simp only[J.agg.injEq,List.cons.injEq,J.int.injEq,J.bool.injEq,J.sl.injEq,cl,cm,ct,cu,cp,b2,b6,cn,bY,true_and,and_true] at h;simp[h])) z h he
theorem Qn:br Tryz.prog G 282 xf:=by
 refine cG mixed As Fx fun z aP=>?_
 obtain⟨ag,cH,y⟩:=z
 obtain⟨ab,h2,aX⟩:=aP
 simp only at ab h2 aX|-
 obtain⟨R,dI,dQ,b1,da⟩:=Ar (show ag<4294967296 by omega) h2
 obtain⟨d1,d2⟩:=G3 ab h2 aX
 have bd:¬y=0:=by omega
 have lT:0<y:=by omega
 have d3:two ag cH/y<18446744073709551616:=by omega
 have d4:y<18446744073709551616:=by omega
 generalize two ag cH=w at*
 unfold i282
 refine ao [0,1,2,6,7,8,15] fun F=>?_
 simp only[an]
 intro f0 f1 f2 f6 f7 f8 f15
 simp[bj] at f0 f1 f2 f6 f7 f8 f15
 repeat' (first
  | refine aC ?_
  | ((fail_if_success (refine aT ?_));(fail_if_success (refine aU ?_));refine aO ?_)
  | ((first|(refine aD aN ?_;simp(disch:=omega) [ab,bd,lT,dI,dQ,b1,da,d1,d2,d3,d4,f0,f1,f2,f6,f7,f8,f15];(try(refine⟨by first|decide|rfl,?_⟩)))|(refine aM ?_;simp(disch:=omega) [ab,bd,lT,dI,dQ,b1,da,d1,d2,d3,d4,f0,f1,f2,f6,f7,f8,f15]));(try(refine ao [0,1,2,6,7,8,15] ?_;intro F;simp only[an];intro U aa af ai au az bD;simp(disch:=omega) [ab,bd,lT,dI,dQ,b1,da,d1,d2,d3,d4,f0,f1,f2,f6,f7,f8,f15] at U aa af ai au az bD;clear f0 f1 f2 f6 f7 f8 f15;have f0:=U;have f1:=aa;have f2:=af;have f6:=ai;have f7:=au;have f8:=az;have f15:=bD;clear U aa af ai au az bD)))
  | (refine aL _ (by simp(disch:=omega) [ab,bd,lT,dI,dQ,b1,da,d1,d2,d3,d4,f0,f1,f2,f6,f7,f8,f15];rfl) (fun I=>?_) (fun I=>?_)<;>first|(exfalso;simp(disch:=omega) [ab,bd,lT,dI,dQ,b1,da,d1,d2,d3,d4] at I;done)|(exfalso;simp at I;omega)|(simp at I))
  | ((first|refine aH ?_|refine aQ ?_);simp(disch:=omega) [ab,bd,lT,dI,dQ,b1,da,d1,d2,d3,d4,f0,f1,f2,f6,f7,f8,f15]))
noncomputable def xg:List J->Option J:=cd (fun z:Nat=>z<4294967296) (fun z=>[bM z]) (fun z=>bt (32 - dJ z))
theorem Qo (z:Nat) (h:z<4294967296) {args:List J} (he:args.map J.loose= [bM z]):xg args=some (bt (32 - dJ z)):=cU (fun z w h=>by first|(simp only[List.cons.injEq,J.int.injEq,J.bool.injEq,J.sl.injEq,cl,cm,ct,cu,cp,b2,b6,cn,bY,true_and,and_true] at h;simp[h];done)|(simp only[J.agg.injEq,List.cons.injEq,J.int.injEq,J.bool.injEq,J.sl.injEq,cl,cm,ct,cu,cp,b2,b6,cn,bY,true_and,and_true] at h;simp[h])) z h he
theorem Qp:br Tryz.prog G 260 xg:=by
 refine cG mixed As Fm fun n ar=>?_
 have t:=OA (n:=n) ar
 have aj:dJ n<=32:=oj.2 ar
 have hw:IntKind.i64.wrap (Z 32 - Z (dJ n))=Z (32 - dJ n):=dp aj (by decide)
 unfold i260
 refine ao [0,2] fun F=>?_
 simp only[an]
 intro f0 f2
 simp[bj] at f0 f2
 repeat' (first
  | refine aC ?_
  | ((fail_if_success (refine aT ?_));(fail_if_success (refine aU ?_));refine aO ?_)
  | ((first|(refine aD aN ?_;simp(disch:=omega) [t,hw,f0,f2];(try(refine⟨by first|decide|rfl,?_⟩)))|(refine aM ?_;simp(disch:=omega) [t,hw,f0,f2]));(try(refine ao [0,2] ?_;intro F;simp only[an];intro U af;simp(disch:=omega) [t,hw,f0,f2] at U af;clear f0 f2;have f0:=U;have f2:=af;clear U af)))
  | (refine aL _ (by simp(disch:=omega) [t,hw,f0,f2];rfl) (fun I=>?_) (fun I=>?_)<;>first|(exfalso;simp(disch:=omega) [t,hw] at I;done)|(exfalso;simp at I;omega)|(simp at I))
  | ((first|refine aH ?_|refine aQ ?_);simp(disch:=omega) [t,hw,f0,f2]))
noncomputable def s7:List J->Option J:=cd (fun z:Nat × Nat × Nat × Nat × Nat=>z.1<=z.2.2.2.1/\z.2.1<4294967296/\z.2.2.1<4294967296/\z.2.2.2.1<4294967296/\z.2.2.2.2<4294967296/\z.2.2.2.1≠0) (fun z=>[bM z.1,bM z.2.1,bM z.2.2.1,bM z.2.2.2.1,bM z.2.2.2.2]) (fun z=>fj (lD z.1 z.2.1 z.2.2.1 z.2.2.2.1 z.2.2.2.2))
theorem Qq (z:Nat × Nat × Nat × Nat × Nat) (h:z.1<=z.2.2.2.1/\z.2.1<4294967296/\z.2.2.1<4294967296/\z.2.2.2.1<4294967296/\z.2.2.2.2<4294967296/\z.2.2.2.1≠0) {args:List J} (he:args.map J.loose= [bM z.1,bM z.2.1,bM z.2.2.1,bM z.2.2.2.1,bM z.2.2.2.2]):s7 args=some (fj (lD z.1 z.2.1 z.2.2.1 z.2.2.2.1 z.2.2.2.2)):=cU (fun z w h=>by first|(simp only[List.cons.injEq,J.int.injEq,J.bool.injEq,J.sl.injEq,cl,cm,ct,cu,cp,b2,b6,cn,bY,true_and,and_true] at h;simp[h];done)|(simp only[J.agg.injEq,List.cons.injEq,J.int.injEq,J.bool.injEq,J.sl.injEq,cl,cm,ct,cu,cp,b2,b6,cn,bY,true_and,and_true] at h;simp[h])) z h he
theorem Qr:br Tryz.prog G 261 s7:=by
 refine cG mixed As Fo fun z aP=>?_
 obtain⟨x2,x1,x0,y1,y0⟩:=z
 obtain⟨h2,ab,oQ,aa,U,bd⟩:=aP
 simp only at h2 ab oQ aa U bd|-
 obtain⟨R,dI,dQ,b1,da⟩:=Ar (show x2<4294967296 by omega) ab
 have Qs:=Qk (x2:=x2) (x1:=x1) (y0:=y0) bd oQ
 have gs:=fun q r=>G5 (q:=q) (r:=r) (x2:=x2) (x1:=x1) (x0:=x0) (y0:=y0) bd
 have Qt:=fun q r=>Qh (q:=q) (r:=r) (x2:=x2) (x1:=x1) (x0:=x0) (y0:=y0) bd
 have p7:=fun q r=>Qi (q:=q) (r:=r) (x2:=x2) (x1:=x1) (x0:=x0) (y0:=y0) bd h2 ab U
 generalize lD x2 x1 x0 y1 y0=G7 at*
 generalize two x2 x1=w at*
 have lT:0<y1:=by omega
 have d4:y1<18446744073709551616:=by omega
 have lC:=Nat.div_le_self w y1
 have rh:=Nat.mod_lt w lT
 have Qu:=Nat.div_add_mod w y1
 have d5:w/y1<18446744073709551616:=by omega
 unfold i261
 refine ao [0,1,2,3,4,10,11,12,13,41,49] fun F=>?_
 simp only[an]
 intro f0 f1 f2 f3 f4 f10 f11 f12 f13 f41 f49
 simp[bj] at f0 f1 f2 f3 f4 f10 f11 f12 f13 f41 f49
 repeat' (first
  | refine aC ?_
  | ((fail_if_success (refine aT ?_));(fail_if_success (refine aU ?_));refine aO ?_)
  | ((first|(refine aD aN ?_;simp(disch:=omega) [bd,lT,dI,dQ,b1,da,d4,d5,f0,f1,f2,f3,f4,f10,f11,f12,f13,f41,f49];(try(refine⟨by first|decide|rfl,?_⟩)))|(refine aM ?_;simp(disch:=omega) [bd,lT,dI,dQ,b1,da,d4,d5,f0,f1,f2,f3,f4,f10,f11,f12,f13,f41,f49]));(try(refine ao [0,1,2,3,4,10,11,12,13,41,49] ?_;intro F;simp only[an];intro U aa af al ad a5 bl a9 aY gi gj;simp(disch:=omega) [bd,lT,dI,dQ,b1,da,d4,d5,f0,f1,f2,f3,f4,f10,f11,f12,f13,f41,f49] at U aa af al ad a5 bl a9 aY gi gj;clear f0 f1 f2 f3 f4 f10 f11 f12 f13 f41 f49;have f0:=U;have f1:=aa;have f2:=af;have f3:=al;have f4:=ad;have f10:=a5;have f11:=bl;have f12:=a9;have f13:=aY;have f41:=gi;have f49:=gj;clear U aa af al ad a5 bl a9 aY gi gj)))
  | (refine aL _ (by simp(disch:=omega) [bd,lT,dI,dQ,b1,da,d4,d5,f0,f1,f2,f3,f4,f10,f11,f12,f13,f41,f49];rfl) (fun I=>?_) (fun I=>?_)<;>first|(exfalso;simp(disch:=omega) [bd,lT,dI,dQ,b1,da,d4,d5] at I;done)|(exfalso;simp at I;omega)|(simp at I))
  | ((first|refine aH ?_|refine aQ ?_);simp(disch:=omega) [bd,lT,dI,dQ,b1,da,d4,d5,f0,f1,f2,f3,f4,f10,f11,f12,f13,f41,f49]))
 refine oh (fun q s=>∃r,q*y1+r=w/\G7<=q/\r<4294967296/\s.F 12=fj q/\s.F 13=fj r) (fun s=>s.F 12=fj G7) (fun _=>False) (w/y1) ?_ ?_ ?_ (fun _ _ h=>h.elim)
 · exact⟨w%y1,by rw[Nat.mul_comm];exact Qu,Qs,by omega,f12,f13⟩
 · clear dI dQ b1
   rintro q s aE ⟨r,bc,qz,ba,nc,u_⟩
   replace f2:=(aE 2 rfl).trans f2;replace f3:=(aE 3 rfl).trans f3;replace f4:=(aE 4 rfl).trans f4
   clear f12 f13
   have f12:=nc
   have f13:=u_
   obtain⟨Wn,kV,c8,eD,kW⟩:=Ar ba oQ
   have Wo:q<18446744073709551616:=by
    have:q*1<=q*y1:=Nat.mul_le_mul_left q lT
    omega
   have kX:y0<18446744073709551616:=by omega
   have s1:=gs q r bc qz
   have s2:=Qt q r bc
   generalize two r x0=v at*
   have main:(q<4294967296/\q*y0<=v)\/(4294967296<=q\/(q<4294967296/\v<q*y0)):=by omega
   have At:q<4294967296->q*y0<18446744073709551616:=fun h=>by
    have:q*y0<=4294967295*4294967295:=Nat.mul_le_mul (by omega) (by omega)
    omega
   refine ao [2,3,4,12,13,41,49] ?_
   intro F
   simp only[an]
   intro af al ad a9 aY gi gj
   try simp[aJ,f2,f3,f4,f12,f13] at af al ad a9 aY gi gj
   clear f2 f3 f4 f12 f13
   have f2:=af
   have f3:=al
   have f4:=ad
   have f12:=a9
   have f13:=aY
   have f41:=gi
   have f49:=gj
   clear af al ad a9 aY gi gj
   rcases main with⟨bJ,ca⟩|main
   · have e:=s1 bJ ca
     have kp:=At bJ
     generalize kq:q*y0=G8 at*
     repeat' (first
      | refine aC ?_
      | ((fail_if_success (refine aT ?_));(fail_if_success (refine aU ?_));refine aO ?_)
      | ((first|(refine aD aN ?_;simp(disch:=omega) [kV,c8,eD,kW,kq,bJ,ca,kp,kX,f2,f3,f4,f12,f13,f41,f49];(try(refine⟨by first|decide|rfl,?_⟩)))|(refine aM ?_;simp(disch:=omega) [kV,c8,eD,kW,kq,bJ,ca,kp,kX,f2,f3,f4,f12,f13,f41,f49]));(try(refine ao [2,3,4,12,13,41,49] ?_;intro F;simp only[an];intro af al ad a9 aY gi gj;simp(disch:=omega) [kV,c8,eD,kW,kq,bJ,ca,kp,kX,f2,f3,f4,f12,f13,f41,f49] at af al ad a9 aY gi gj;clear f2 f3 f4 f12 f13 f41 f49;have f2:=af;have f3:=al;have f4:=ad;have f12:=a9;have f13:=aY;have f41:=gi;have f49:=gj;clear af al ad a9 aY gi gj)))
      | (refine aL _ (by simp(disch:=omega) [kV,c8,eD,kW,kq,bJ,ca,kp,kX,f2,f3,f4,f12,f13,f41,f49];rfl) (fun I=>?_) (fun I=>?_)<;>first|(exfalso;simp(disch:=omega) [kV,c8,eD,kW,kq,bJ,ca,kp,kX] at I;done)|(exfalso;simp at I;omega)|(simp at I))
      | ((first|refine aH ?_|refine aQ ?_);simp(disch:=omega) [kV,c8,eD,kW,kq,bJ,ca,kp,kX,f2,f3,f4,f12,f13,f41,f49]))
     first|exact e|(rw[f12,e])
   · obtain⟨eT,j_⟩:=s2 (by omega)
     have aq:(q+18446744073709551615)%18446744073709551616=q - 1:=by omega
     have aB:r+y1<18446744073709551616:=by omega
     have pI:(q - 1)*y1+(r+y1)=w:=by
      rw[<-bc]
      obtain⟨p,rfl⟩:∃p,q=p+1:=⟨q - 1,by omega⟩
      rw[Nat.add_sub_cancel,Nat.add_mul];omega
     by_cases gP:4294967296<=r+y1
     · have e:=p7 (q - 1) (r+y1) pI eT gP
       rcases main with bJ|⟨bJ,ca⟩
       · skip
         repeat' (first
          | refine aC ?_
          | ((fail_if_success (refine aT ?_));(fail_if_success (refine aU ?_));refine aO ?_)
          | ((first|(refine aD aN ?_;simp(disch:=omega) [bJ,aq,aB,gP,d4,f2,f3,f4,f12,f13,f41,f49];(try(refine⟨by first|decide|rfl,?_⟩)))|(refine aM ?_;simp(disch:=omega) [bJ,aq,aB,gP,d4,f2,f3,f4,f12,f13,f41,f49]));(try(refine ao [2,3,4,12,13,41,49] ?_;intro F;simp only[an];intro af al ad a9 aY gi gj;simp(disch:=omega) [bJ,aq,aB,gP,d4,f2,f3,f4,f12,f13,f41,f49] at af al ad a9 aY gi gj;clear f2 f3 f4 f12 f13 f41 f49;have f2:=af;have f3:=al;have f4:=ad;have f12:=a9;have f13:=aY;have f41:=gi;have f49:=gj;clear af al ad a9 aY gi gj)))
          | (refine aL _ (by simp(disch:=omega) [bJ,aq,aB,gP,d4,f2,f3,f4,f12,f13,f41,f49];rfl) (fun I=>?_) (fun I=>?_)<;>first|(exfalso;simp(disch:=omega) [bJ,aq,aB,gP,d4] at I;done)|(exfalso;simp at I;omega)|(simp at I))
          | ((first|refine aH ?_|refine aQ ?_);simp(disch:=omega) [bJ,aq,aB,gP,d4,f2,f3,f4,f12,f13,f41,f49]))
         first|exact e|(rw[f12,e])
       · have kp:=At bJ
         generalize kq:q*y0=G8 at*
         repeat' (first
          | refine aC ?_
          | ((fail_if_success (refine aT ?_));(fail_if_success (refine aU ?_));refine aO ?_)
          | ((first|(refine aD aN ?_;simp(disch:=omega) [kV,c8,eD,kW,kq,bJ,ca,kp,kX,aq,aB,gP,d4,f2,f3,f4,f12,f13,f41,f49];(try(refine⟨by first|decide|rfl,?_⟩)))|(refine aM ?_;simp(disch:=omega) [kV,c8,eD,kW,kq,bJ,ca,kp,kX,aq,aB,gP,d4,f2,f3,f4,f12,f13,f41,f49]));(try(refine ao [2,3,4,12,13,41,49] ?_;intro F;simp only[an];intro af al ad a9 aY gi gj;simp(disch:=omega) [kV,c8,eD,kW,kq,bJ,ca,kp,kX,aq,aB,gP,d4,f2,f3,f4,f12,f13,f41,f49] at af al ad a9 aY gi gj;clear f2 f3 f4 f12 f13 f41 f49;have f2:=af;have f3:=al;have f4:=ad;have f12:=a9;have f13:=aY;have f41:=gi;have f49:=gj;clear af al ad a9 aY gi gj)))
          | (refine aL _ (by simp(disch:=omega) [kV,c8,eD,kW,kq,bJ,ca,kp,kX,aq,aB,gP,d4,f2,f3,f4,f12,f13,f41,f49];rfl) (fun I=>?_) (fun I=>?_)<;>first|(exfalso;simp(disch:=omega) [kV,c8,eD,kW,kq,bJ,ca,kp,kX,aq,aB,gP,d4] at I;done)|(exfalso;simp at I;omega)|(simp at I))
          | ((first|refine aH ?_|refine aQ ?_);simp(disch:=omega) [kV,c8,eD,kW,kq,bJ,ca,kp,kX,aq,aB,gP,d4,f2,f3,f4,f12,f13,f41,f49]))
         first|exact e|(rw[f12,e])
     · rcases main with bJ|⟨bJ,ca⟩
       · skip
         repeat' (first
          | refine aC ?_
          | ((fail_if_success (refine aT ?_));(fail_if_success (refine aU ?_));refine aO ?_)
          | ((first|(refine aD aN ?_;simp(disch:=omega) [bJ,aq,aB,gP,d4,f2,f3,f4,f12,f13,f41,f49];(try(refine⟨by first|decide|rfl,?_⟩)))|(refine aM ?_;simp(disch:=omega) [bJ,aq,aB,gP,d4,f2,f3,f4,f12,f13,f41,f49]));(try(refine ao [2,3,4,12,13,41,49] ?_;intro F;simp only[an];intro af al ad a9 aY gi gj;simp(disch:=omega) [bJ,aq,aB,gP,d4,f2,f3,f4,f12,f13,f41,f49] at af al ad a9 aY gi gj;clear f2 f3 f4 f12 f13 f41 f49;have f2:=af;have f3:=al;have f4:=ad;have f12:=a9;have f13:=aY;have f41:=gi;have f49:=gj;clear af al ad a9 aY gi gj)))
          | (refine aL _ (by simp(disch:=omega) [bJ,aq,aB,gP,d4,f2,f3,f4,f12,f13,f41,f49];rfl) (fun I=>?_) (fun I=>?_)<;>first|(exfalso;simp(disch:=omega) [bJ,aq,aB,gP,d4] at I;done)|(exfalso;simp at I;omega)|(simp at I))
          | ((first|refine aH ?_|refine aQ ?_);simp(disch:=omega) [bJ,aq,aB,gP,d4,f2,f3,f4,f12,f13,f41,f49]))
         exact⟨q - 1,by omega,r+y1,pI,eT,by omega,by first|rfl|exact f12,by first|rfl|exact f13⟩
       · have kp:=At bJ
         generalize kq:q*y0=G8 at*
         repeat' (first
          | refine aC ?_
          | ((fail_if_success (refine aT ?_));(fail_if_success (refine aU ?_));refine aO ?_)
          | ((first|(refine aD aN ?_;simp(disch:=omega) [kV,c8,eD,kW,kq,bJ,ca,kp,kX,aq,aB,gP,d4,f2,f3,f4,f12,f13,f41,f49];(try(refine⟨by first|decide|rfl,?_⟩)))|(refine aM ?_;simp(disch:=omega) [kV,c8,eD,kW,kq,bJ,ca,kp,kX,aq,aB,gP,d4,f2,f3,f4,f12,f13,f41,f49]));(try(refine ao [2,3,4,12,13,41,49] ?_;intro F;simp only[an];intro af al ad a9 aY gi gj;simp(disch:=omega) [kV,c8,eD,kW,kq,bJ,ca,kp,kX,aq,aB,gP,d4,f2,f3,f4,f12,f13,f41,f49] at af al ad a9 aY gi gj;clear f2 f3 f4 f12 f13 f41 f49;have f2:=af;have f3:=al;have f4:=ad;have f12:=a9;have f13:=aY;have f41:=gi;have f49:=gj;clear af al ad a9 aY gi gj)))
          | (refine aL _ (by simp(disch:=omega) [kV,c8,eD,kW,kq,bJ,ca,kp,kX,aq,aB,gP,d4,f2,f3,f4,f12,f13,f41,f49];rfl) (fun I=>?_) (fun I=>?_)<;>first|(exfalso;simp(disch:=omega) [kV,c8,eD,kW,kq,bJ,ca,kp,kX,aq,aB,gP,d4] at I;done)|(exfalso;simp at I;omega)|(simp at I))
          | ((first|refine aH ?_|refine aQ ?_);simp(disch:=omega) [kV,c8,eD,kW,kq,bJ,ca,kp,kX,aq,aB,gP,d4,f2,f3,f4,f12,f13,f41,f49]))
         exact⟨q - 1,by omega,r+y1,pI,eT,by omega,by first|rfl|exact f12,by first|rfl|exact f13⟩
 · rintro s aE nc
   clear f12 f13
   have f12:=nc
   refine ao [10,12] ?_
   intro F
   simp only[an]
   intro a5 a9
   try simp[aJ,f12] at a5 a9
   clear f12
   have f10:=a5
   have f12:=a9
   clear a5 a9
   repeat' (first
    | refine aC ?_
    | ((fail_if_success (refine aT ?_));(fail_if_success (refine aU ?_));refine aO ?_)
    | ((first|(refine aD aN ?_;simp(disch:=omega) [f10,f12];(try(refine⟨by first|decide|rfl,?_⟩)))|(refine aM ?_;simp(disch:=omega) [f10,f12]));(try(refine ao [10,12] ?_;intro F;simp only[an];intro a5 a9;simp(disch:=omega) [f10,f12] at a5 a9;clear f10 f12;have f10:=a5;have f12:=a9;clear a5 a9)))
    | (refine aL _ (by simp(disch:=omega) [f10,f12];rfl) (fun I=>?_) (fun I=>?_)<;>first|(exfalso;simp(disch:=omega) at I;done)|(exfalso;simp at I;omega)|(simp at I))
    | ((first|refine aH ?_|refine aQ ?_);simp(disch:=omega) [f10,f12]))
end
end
end Go.Proofs.YtemiagcencajeaaGreatDoor
