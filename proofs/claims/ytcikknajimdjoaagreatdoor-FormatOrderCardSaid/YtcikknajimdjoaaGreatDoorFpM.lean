/- What the claim needs of the walks, put together by a program (shake.py). -/
import Derived.Test.YtcikknajimdjoaaGreatDoorFpL
set_option maxRecDepth 100000
set_option linter.unusedSimpArgs false
set_option linter.unusedVariables false
set_option linter.unusedSectionVars false
namespace Go.Proofs.YtcikknajimdjoaaGreatDoor
section
set_option maxHeartbeats 8000000
open Go Go.Eng Go.RowKit
def xB (f:cE) (w:Rat) (h:aF):Prop:=h.cells 0=some [qr w]/\h.cells 1=some [d_ f]/\h.cells 2=some [.agg [bp 0,.bool false,.sl [] true,bp 0]]/\2<h.next/\h.shut=fun _=>false
theorem xB.kept {f:cE} {w:Rat} {h ay:aF} (g:xB f w h) (K:Kept h ay):xB f w ay:=by
 obtain⟨cA,ba,br,gw,gs⟩:=g
 exact ⟨by rw[K.cells 0 (by omega),cA],by rw[K.cells 1 (by omega),ba],by rw[K.cells 2 gw,br],by have:=K.next;omega,by rw[K.shut,gs]⟩
def Dx (f:cE) (w:Rat) (dir:Nat) (st:bg):Prop:=st.F 2=bp dir/\st.F 3= .ptr 0 0 0/\st.F 4= .ptr 1 0 0/\st.F 6= .ptr 2 0 0/\xB f w st.h
def Dy (f:cE) (w:Rat) (dir:Nat) (neg:Bool) (st:bg):Prop:=Dx f w dir st/\st.F 8= .bool neg
def vB (f:cE) (w:Rat) (dir:Nat) (neg:Bool) (E:Int) (qP q:Nat) (A:Option (List J)) (qQ:FuncId) (c0:List J) (ge:FuncId) (st:bg):Prop:=Dy f w dir neg st/\st.F 9= .ptr qP 0 0/\st.F 10= .int .i64 E/\st.h.cells qP=some [.agg [.fn qQ [] c0,.fn ge [] []]]/\st.h.cells q=A/\qP<st.h.next/\q<st.h.next
end
section
set_option maxHeartbeats 8000000
open Go Go.Eng Go.RowKit
def p2 (f:qO):cE:=
 ⟨if l8 f.r 1=0/\l8 f.r 8=8 then 10 else 2,1+l8 f.p 65535%10,((l8 f.bd 65535%31:Nat):Int) - 20,((l8 f.bd 65535%31:Nat):Int) - 20+((l8 f.an 65535%21:Nat):Int)⟩
structure YD (f:cE):Prop where
 ok:fS f
 p:f.p<=10
 ck: -20<=f.bd
 dD:f.bd<=10
 h:f.an<=30
theorem YE (f:qO):YD (p2 f):=by
 have ae:=Nat.mod_lt (l8 f.p 65535) (show 0<10 by decide)
 have h2:=Nat.mod_lt (l8 f.bd 65535) (show 0<31 by decide)
 have aO:=Nat.mod_lt (l8 f.an 65535) (show 0<21 by decide)
 have au:(p2 f).β=2\/(p2 f).β=10:=by simp only[p2];split<;>simp
 refine⟨⟨au,?_,?_,?_,?_,?_,?_⟩,?_,?_,?_,?_⟩<;>simp only[p2]<;>omega
end
section
set_option maxHeartbeats 8000000
open Go Go.Eng Go.RowKit
theorem head_eq:wP []=some (.bool true):=rfl
theorem YF:((-1:Int)<Z 0)=True:=eq_true (by decide)
theorem YG:(Z 0<(-1:Int))=False:=eq_false (by decide)
theorem YH:((-1:Int)=Z 0)=False:=eq_false (by decide)
theorem YI:((-1:Int) == Z 0)=false:=by decide
theorem YJ:((-1:Int) != Z 0)=true:=by decide
theorem YK:(Z 0<=(-1:Int))=False:=eq_false (by decide)
theorem YL:((-1:Int)<=Z 0)=True:=eq_true (by decide)
theorem YM:IntKind.i64.wrap (-(-1:Int))=Z 1:=wrap_i64 (by decide) (by decide)
theorem YN:IntKind.i64.wrap (-(Z 1))= -1:=wrap_i64 (by decide) (by decide)
theorem YO:IntKind.i64.wrap (-(Z 0))=Z 0:=wrap_i64 (by decide) (by decide)
theorem YP:IntKind.i64.wrap (1:Int)=Z 1:=wrap_i64 (by decide) (by decide)
theorem vC:(Z 0<(2:Int))=True:=eq_true (by decide)
theorem vD:(Z 1<(2:Int))=True:=eq_true (by decide)
end
section
set_option maxHeartbeats 8000000
open Go Go.Eng Go.RowKit
attribute [local simp] bH.m bH.o bH.n bH.g hy fh dG dr dJ evalOp.eq_1 evalOp.eq_2 evalOp.eq_3 evalOp.eq_4 evalOp.eq_5 evalOp.eq_6 evalOp.eq_7 evalOp.eq_8 evalOp.eq_9 evalOp.eq_10 evalOp.eq_11 evalOp.eq_12 evalOp.eq_13 evalOp.eq_14 evalOp.eq_15 evalOp.eq_16 evalOp.eq_17 evalOp.eq_18 evalOp.eq_19 evalOp.eq_20 evalOp.eq_21 evalOp.eq_22 evalOp.eq_23 evalOp.eq_24 evalOp.eq_25 evalOp.eq_27 evalOp.eq_28 evalOp.eq_29 kl bn.cu dq aG aF.new a8 J.cells J.dp J.e7 J.ft il iq im ir iv iu jK jL jM gY gZ cut partOf bound elems jO jP jQ jR jS jT jU jV jW jX jY jZ h1 j0 j1 j2 j3 j4 j5 j6 j7 j8 j9 j_ j' ka kb kc kd ke kf kg kh ki kj kk ff e8 e1 gi iw hA aF.close aF.set h3 km kn ko jN hB gD gq gJ gr hX gu gK hY hZ h0 gf gg gh gd ix bI hU iy hV iz iA fY iB fw iC iD iE gT jJ iF iG iH iI iJ iK iL iM iN iO iP iQ iR iS iT iU iV iW iX hf iY iZ i_ i' ja jb jc jd je jf jg jh ji jj jk
attribute [local simp high] jG jH jI jl jm jn jo jq jr js jt ju jv jw jx jy jz jA jB jC jD jE jF
attribute [local simp] aS List.getElem?_cons_zero List.getElem?_cons_succ fa eh gl Nat.mod_eq_of_lt kH kI kJ kK gL kL kM kN
section
attribute [local irreducible] cQ
attribute [local simp] ek eL du
attribute [local simp] Lj Lk Ll Lm Ln Lo Lp Lq Lr Ls Lt Lu Lv Lw Lx Ly Lz LA LB LC LD LF
noncomputable def xC:List J->Option J:=cl (fun z:Rat × cE × Nat=>fS z.2.1/\eV z.1<=12/\z.2.2<5) (fun z=>[qr z.1,d_ z.2.1,bp z.2.2]) (fun z=> .cb [gN (dE z.2.1 z.2.2 z.1),bp 0])
theorem YQ (z:Rat × cE × Nat) (h:fS z.2.1/\eV z.1<=12/\z.2.2<5) {args:List J} (he:args.map J.loose= [qr z.1,d_ z.2.1,bp z.2.2]):xC args=some (.cb [gN (dE z.2.1 z.2.2 z.1),bp 0]):=cI (fun z w h=>by first|(simp only[ly,fR,fQ,List.cons.injEq,J.int.injEq,J.bool.injEq,J.sl.injEq,bT,bU,bY,bZ,bX,bG,bL,bV,bI,true_and,and_true] at h;simp[h];done)|(simp only[J.agg.injEq,ly,fR,fQ,List.cons.injEq,J.int.injEq,J.bool.injEq,J.sl.injEq,bT,bU,bY,bZ,bX,bG,bL,bV,bI,true_and,and_true] at h;simp[h])) z h he
theorem YR:bl Tryz.prog G 30 xC:=by
 refine cJ mixed Yr F8 fun z aV=>?_
 obtain⟨w,f,dir⟩:=z
 obtain⟨aT,hw,bw⟩:=aV
 simp only at aT hw bw|-
 have t1:=aT.KY
 have t2:=U' w trivial (args:=[qr w]) (by simp)
 have d5:(5<=dir)=False:=eq_false (by omega)
 unfold i30
 refine oj (fun st=>Dx f w dir st/\st.h.next=4) ?_ ?_
 · skip
   refine al [0,1,2,3,4,6,7,8,9,10,11,12,13,14,16,17,30,37,86,96,104,110,119] fun F=>?_
   simp only[ak]
   intro f0 f1 f2 f3 f4 f6 f7 f8 f9 f10 f11 f12 f13 f14 f16 f17 f30 f37 f86 f96 f104 f110 f119
   simp[a8] at f0 f1 f2 f3 f4 f6 f7 f8 f9 f10 f11 f12 f13 f14 f16 f17 f30 f37 f86 f96 f104 f110 f119
   repeat' (first
    | refine ax ?_
    | ((fail_if_success (refine aQ ?_));(fail_if_success (refine aR ?_));refine aL ?_)
    | ((first|(refine az cz ?_;simp(disch:=omega) [f0,f1,f2,f3,f4,f6,f7,f8,f9,f10,f11,f12,f13,f14,f16,f17,f30,f37,f86,f96,f104,f110,f119];(try(refine⟨by first|decide|rfl,?_⟩)))|(refine aK ?_;simp(disch:=omega) [f0,f1,f2,f3,f4,f6,f7,f8,f9,f10,f11,f12,f13,f14,f16,f17,f30,f37,f86,f96,f104,f110,f119]));(try(refine al [0,1,2,3,4,6,7,8,9,10,11,12,13,14,16,17,30,37,86,96,104,110,119] ?_;intro F;simp only[ak];intro U ab aa af ad ag ar ao aA aB bA aX aZ bs bQ bx cU gy fJ lP ku kv dz;simp(disch:=omega) [f0,f1,f2,f3,f4,f6,f7,f8,f9,f10,f11,f12,f13,f14,f16,f17,f30,f37,f86,f96,f104,f110,f119] at U ab aa af ad ag ar ao aA aB bA aX aZ bs bQ bx cU gy fJ lP ku kv dz;clear f0 f1 f2 f3 f4 f6 f7 f8 f9 f10 f11 f12 f13 f14 f16 f17 f30 f37 f86 f96 f104 f110 f119;have f0:=U;have f1:=ab;have f2:=aa;have f3:=af;have f4:=ad;have f6:=ag;have f7:=ar;have f8:=ao;have f9:=aA;have f10:=aB;have f11:=bA;have f12:=aX;have f13:=aZ;have f14:=bs;have f16:=bQ;have f17:=bx;have f30:=cU;have f37:=gy;have f86:=fJ;have f96:=lP;have f104:=ku;have f110:=kv;have f119:=dz;clear U ab aa af ad ag ar ao aA aB bA aX aZ bs bQ bx cU gy fJ lP ku kv dz)))
    | (refine aJ _ (by simp(disch:=omega) [f0,f1,f2,f3,f4,f6,f7,f8,f9,f10,f11,f12,f13,f14,f16,f17,f30,f37,f86,f96,f104,f110,f119];rfl) (fun I=>?_) (fun I=>?_)<;>first|(exfalso;simp(disch:=omega) at I;done)|(exfalso;simp at I;omega)|(simp at I))
    | ((first|refine aH ?_|refine aN ?_);simp(disch:=omega) [f0,f1,f2,f3,f4,f6,f7,f8,f9,f10,f11,f12,f13,f14,f16,f17,f30,f37,f86,f96,f104,f110,f119]))
   exact ⟨f2,rfl,rfl,rfl,by simp[aG],by simp[aG],by simp[aG],by simp,rfl⟩
 · rintro ⟨l9,⟨C,S,n,P⟩⟩ ⟨⟨f2,f3,f4,f6,cA,ba,br,gw,gs⟩,LM⟩
   simp only at f2 f3 f4 f6 cA ba br gw gs LM
   subst gs
   obtain⟨a,b,c,ae,aj,vE⟩:=LI [] C (n+13) P
   refine oj (Dx f w dir) ?_ ?_
   · skip
     refine al [2,3,4,6,30] ?_
     intro F
     simp only[ak]
     intro aa af ad ag cU
     try simp[aS,f2,f3,f4,f6] at aa af ad ag cU
     clear f2 f3 f4 f6
     have f2:=aa
     have f3:=af
     have f4:=ad
     have f6:=ag
     have f30:=cU
     clear aa af ad ag cU
     repeat' (first
      | refine ax ?_
      | ((fail_if_success (refine aQ ?_));(fail_if_success (refine aR ?_));refine aL ?_)
      | ((first|(refine az cz ?_;simp(disch:=omega) [cA,ba,t1,aj,d5,f2,f3,f4,f6,f30];(try(refine⟨by first|decide|rfl,?_⟩)))|(refine aK ?_;simp(disch:=omega) [cA,ba,t1,aj,d5,f2,f3,f4,f6,f30]));(try(refine al [2,3,4,6,30] ?_;intro F;simp only[ak];intro aa af ad ag cU;simp(disch:=omega) [cA,ba,t1,aj,d5,f2,f3,f4,f6,f30] at aa af ad ag cU;clear f2 f3 f4 f6 f30;have f2:=aa;have f3:=af;have f4:=ad;have f6:=ag;have f30:=cU;clear aa af ad ag cU)))
      | (refine aJ _ (by simp(disch:=omega) [cA,ba,t1,aj,d5,f2,f3,f4,f6,f30];rfl) (fun I=>?_) (fun I=>?_)<;>first|(exfalso;simp(disch:=omega) [cA,ba,t1,aj,d5] at I;done)|(exfalso;simp at I;omega)|(simp at I))
      | ((first|refine aH ?_|refine aN ?_);simp(disch:=omega) [cA,ba,t1,aj,d5,f2,f3,f4,f6,f30]))
     exact ⟨f2,f3,f4,f6,xB.kept (h:=⟨C,fun _=>false,n+13,P⟩) ⟨cA,ba,br,by simp only;omega,rfl⟩ vE.kept⟩
   · clear aj vE ae a b c f2 f3 f4 f6 cA ba br gw LM C n P l9 t1 d5
     rintro ⟨l9,⟨C,S,n,P⟩⟩ ⟨f2,f3,f4,f6,cA,ba,br,gw,gs⟩
     simp only at f2 f3 f4 f6 cA ba br gw gs
     subst gs
     by_cases tu:w=0
     · have kZ:gV w.num=Z 0:=by rw[tu];rfl
       have cc:dE f dir w=⟨0,false,0,0⟩:=if_pos tu
       have bM:ai 0= []:=eX
       rw[cc]
       rw[kZ] at t2
       clear tu kZ cc
       refine al [2,3,4,6,7,8,37] ?_
       intro F
       simp only[ak]
       intro aa af ad ag ar ao gy
       try simp[aS,f2,f3,f4,f6] at aa af ad ag ar ao gy
       clear f2 f3 f4 f6
       have f2:=aa
       have f3:=af
       have f4:=ad
       have f6:=ag
       have f7:=ar
       have f8:=ao
       have f37:=gy
       clear aa af ad ag ar ao gy
       repeat' (first
        | refine ax ?_
        | ((fail_if_success (refine aQ ?_));(fail_if_success (refine aR ?_));refine aL ?_)
        | ((first|(refine az cz ?_;simp(disch:=omega) [cA,br,t2,bM,f2,f3,f4,f6,f7,f8,f37];(try(refine⟨by first|decide|rfl,?_⟩)))|(refine aK ?_;simp(disch:=omega) [cA,br,t2,bM,f2,f3,f4,f6,f7,f8,f37]));(try(refine al [2,3,4,6,7,8,37] ?_;intro F;simp only[ak];intro aa af ad ag ar ao gy;simp(disch:=omega) [cA,br,t2,bM,f2,f3,f4,f6,f7,f8,f37] at aa af ad ag ar ao gy;clear f2 f3 f4 f6 f7 f8 f37;have f2:=aa;have f3:=af;have f4:=ad;have f6:=ag;have f7:=ar;have f8:=ao;have f37:=gy;clear aa af ad ag ar ao gy)))
        | (refine aJ _ (by simp(disch:=omega) [cA,br,t2,bM,f2,f3,f4,f6,f7,f8,f37];rfl) (fun I=>?_) (fun I=>?_)<;>first|(exfalso;simp(disch:=omega) [cA,br,t2,bM] at I;done)|(exfalso;simp at I;omega)|(simp at I))
        | ((first|refine aH ?_|refine aN ?_);simp(disch:=omega) [cA,br,t2,bM,f2,f3,f4,f6,f7,f8,f37]))
     · obtain⟨neg,rH,aj,aq,b7,c3,sc,aW,bW⟩:=Xd tu
       have bf:dE f dir w=pn f dir neg (dZ w):=by rw[<-aj];exact if_neg tu
       rw[bf]
       rw[aq] at t2
       clear bf aj aq aW bW
       refine oj (Dy f w dir neg) ?_ ?_
       · have vF:decide (rH<Z 0)=neg:=by rw[show (decide (rH<Z 0)=neg)=(decide (neg=true)=neg) by congr 1;exact decide_eq_decide.2 (by rw[sc])];cases neg<;>rfl
         refine al [2,3,4,6,8] ?_
         intro F
         simp only[ak]
         intro aa af ad ag ao
         try simp[aS,f2,f3,f4,f6] at aa af ad ag ao
         clear f2 f3 f4 f6
         have f2:=aa
         have f3:=af
         have f4:=ad
         have f6:=ag
         have f8:=ao
         clear aa af ad ag ao
         repeat' (first
          | refine ax ?_
          | ((fail_if_success (refine aQ ?_));(fail_if_success (refine aR ?_));refine aL ?_)
          | ((first|(refine az cz ?_;simp(disch:=omega) [cA,t2,vF,f2,f3,f4,f6,f8];(try(refine⟨by first|decide|rfl,?_⟩)))|(refine aK ?_;simp(disch:=omega) [cA,t2,vF,f2,f3,f4,f6,f8]));(try(refine al [2,3,4,6,8] ?_;intro F;simp only[ak];intro aa af ad ag ao;simp(disch:=omega) [cA,t2,vF,f2,f3,f4,f6,f8] at aa af ad ag ao;clear f2 f3 f4 f6 f8;have f2:=aa;have f3:=af;have f4:=ad;have f6:=ag;have f8:=ao;clear aa af ad ag ao)))
          | (refine aJ _ (by simp(disch:=omega) [cA,t2,vF,f2,f3,f4,f6,f8];rfl) (fun I=>?_) (fun I=>?_)<;>first|(exfalso;simp(disch:=omega) [cA,t2,vF] at I;done)|(exfalso;simp at I;omega)|(simp at I))
          | ((first|refine aH ?_|refine aN ?_);simp(disch:=omega) [cA,t2,vF,f2,f3,f4,f6,f8]))
         exact ⟨⟨f2,f3,f4,f6,cA,ba,br,by simp only;omega,rfl⟩,rfl⟩
       · clear f2 f3 f4 f6 cA ba br gw C n P l9
         rintro ⟨l9,⟨C,S,n,P⟩⟩ ⟨⟨f2,f3,f4,f6,cA,ba,br,gw,gs⟩,f8⟩
         simp only at f2 f3 f4 f6 f8 cA ba br gw gs
         subst gs
         refine oj (Dy f w dir neg) ?_ ?_
         · skip
           refine al [2,3,4,6,8,37] ?_
           intro F
           simp only[ak]
           intro aa af ad ag ao gy
           try simp[aS,f2,f3,f4,f6,f8] at aa af ad ag ao gy
           clear f2 f3 f4 f6 f8
           have f2:=aa
           have f3:=af
           have f4:=ad
           have f6:=ag
           have f8:=ao
           have f37:=gy
           clear aa af ad ag ao gy
           repeat' (first
            | refine ax ?_
            | ((fail_if_success (refine aQ ?_));(fail_if_success (refine aR ?_));refine aL ?_)
            | ((first|(refine az cz ?_;simp(disch:=omega) [cA,t2,b7,c3,f2,f3,f4,f6,f8,f37];(try(refine⟨by first|decide|rfl,?_⟩)))|(refine aK ?_;simp(disch:=omega) [cA,t2,b7,c3,f2,f3,f4,f6,f8,f37]));(try(refine al [2,3,4,6,8,37] ?_;intro F;simp only[ak];intro aa af ad ag ao gy;simp(disch:=omega) [cA,t2,b7,c3,f2,f3,f4,f6,f8,f37] at aa af ad ag ao gy;clear f2 f3 f4 f6 f8 f37;have f2:=aa;have f3:=af;have f4:=ad;have f6:=ag;have f8:=ao;have f37:=gy;clear aa af ad ag ao gy)))
            | (refine aJ _ (by simp(disch:=omega) [cA,t2,b7,c3,f2,f3,f4,f6,f8,f37];rfl) (fun I=>?_) (fun I=>?_)<;>first|(exfalso;simp(disch:=omega) [cA,t2,b7,c3] at I;done)|(exfalso;simp at I;omega)|(simp at I))
            | ((first|refine aH ?_|refine aN ?_);simp(disch:=omega) [cA,t2,b7,c3,f2,f3,f4,f6,f8,f37]))
           exact ⟨⟨f2,f3,f4,f6,cA,ba,br,by simp only;omega,rfl⟩,f8⟩
         · clear f2 f3 f4 f6 f8 cA ba br gw C n P l9 t2 b7 c3 sc
           rintro ⟨l9,⟨C,S,n,P⟩⟩ ⟨⟨f2,f3,f4,f6,cA,ba,br,gw,gs⟩,f8⟩
           simp only at f2 f3 f4 f6 f8 cA ba br gw gs
           subst gs
           obtain⟨a,b,c,ae,aj,vE⟩:=LI [] C (n+9) P
           obtain⟨qQ,c0,ge,q,A,bc,a4,bq,bo,ov,LN⟩:=YC bw vE
           obtain⟨ct,ej⟩:=K2 aT hw
           have rY:=Ym (w,f) ⟨aT,hw⟩ (args:=[qr w,d_ f]) (by simp)
           have dL:=rU aT.ok (dZ w)
           simp only at rY
           unfold pn
           generalize lW f (dZ w)=E at*
           have vG:=vE.kept
           have tD:ae.shut=fun _=>false:=vG.shut
           have qR:ae.cells 0=some [qr w]:=by rw[vG.cells 0 (by simp only;omega)];exact cA
           have qS:ae.cells 1=some [d_ f]:=by rw[vG.cells 1 (by simp only;omega)];exact ba
           have LO:=(vG.cells 2 (by simp only;omega)).trans br
           have LP:=vG.next
           have d5:(Z dir<(5:Int))=True:=eq_true (by simp only[Z];omega)
           have d10:(dir*2+2<=10)=True:=eq_true (by omega)
           refine oj (vB f w dir neg E (n+6) q A qQ c0 ge) ?_ ?_
           · skip
             refine al [2,3,4,6,8,9,10] ?_
             intro F
             simp only[ak]
             intro aa af ad ag ao aA aB
             try simp[aS,f2,f3,f4,f6,f8] at aa af ad ag ao aA aB
             clear f2 f3 f4 f6 f8
             have f2:=aa
             have f3:=af
             have f4:=ad
             have f6:=ag
             have f8:=ao
             have f9:=aA
             have f10:=aB
             clear aa af ad ag ao aA aB
             repeat' (first
              | refine ax ?_
              | ((fail_if_success (refine aQ ?_));(fail_if_success (refine aR ?_));refine aL ?_)
              | ((first|(refine az cz ?_;simp(disch:=omega) [cA,ba,aj,rY,bc,d5,d10,tD,qR,qS,f2,f3,f4,f6,f8,f9,f10];(try(refine⟨by first|decide|rfl,?_⟩)))|(refine aK ?_;simp(disch:=omega) [cA,ba,aj,rY,bc,d5,d10,tD,qR,qS,f2,f3,f4,f6,f8,f9,f10]));(try(refine al [2,3,4,6,8,9,10] ?_;intro F;simp only[ak];intro aa af ad ag ao aA aB;simp(disch:=omega) [cA,ba,aj,rY,bc,d5,d10,tD,qR,qS,f2,f3,f4,f6,f8,f9,f10] at aa af ad ag ao aA aB;clear f2 f3 f4 f6 f8 f9 f10;have f2:=aa;have f3:=af;have f4:=ad;have f6:=ag;have f8:=ao;have f9:=aA;have f10:=aB;clear aa af ad ag ao aA aB)))
              | (refine aJ _ (by simp(disch:=omega) [cA,ba,aj,rY,bc,d5,d10,tD,qR,qS,f2,f3,f4,f6,f8,f9,f10];rfl) (fun I=>?_) (fun I=>?_)<;>first|(exfalso;simp(disch:=omega) [cA,ba,aj,rY,bc,d5,d10,tD,qR,qS] at I;done)|(exfalso;simp at I;omega)|(simp at I))
              | ((first|refine aH ?_|refine aN ?_);simp(disch:=omega) [cA,ba,aj,rY,bc,d5,d10,tD,qR,qS,f2,f3,f4,f6,f8,f9,f10]))
             refine⟨by simp[r2,kV,p4,qR,qS,cA,ba,vQ];exact ⟨by omega,by omega,by decide⟩,?_⟩
             have aaB:n+9<=q:=LN
             have aaC:n+9<=ae.next:=LP
             have bm:0≠n+6/\1≠n+6/\2≠n+6/\q≠n+6:=⟨by omega,by omega,by omega,by omega⟩
             exact ⟨⟨⟨f2,f3,f4,f6,by simp only[aG];rw[if_neg bm.1,if_neg bm.1];exact qR,by simp only[aG];rw[if_neg bm.2.1,if_neg bm.2.1];exact qS,by simp only[aG];rw[if_neg bm.2.2.1,if_neg bm.2.2.1];exact LO,by simp only;omega,rfl⟩,f8⟩,rfl,rfl,by simp only[aG,if_true],by simp only[aG];rw[if_neg bm.2.2.2,if_neg bm.2.2.2];exact bo,by simp only;omega,ov⟩
           · clear aj vE vG tD qR qS LO LP d5 d10 f2 f3 f4 f6 f8 cA ba br gw bc bo ov LN rY
             generalize n+6=qP
             clear a b c ae C n P l9
             rintro ⟨l9,⟨C,S,n,P⟩⟩ ⟨⟨⟨f2,f3,f4,f6,cA,ba,br,gw,gs⟩,f8⟩,f9,f10,dw,eY,dH,mG⟩
             simp only at f2 f3 f4 f6 f8 f9 f10 cA ba br gw gs dw eY dH mG
             subst gs
             have hz:=aT.ok.b
             have tB:=aT.b
             have dO:=aT.dO
             have e2:=aT.e2
             have Yo:=aT.ck
             have kZ:=xr w
             have cB:=La (w,f,E) ⟨tB,by simp only;omega,by simp only;omega,by simp only;omega⟩ (args:=[qr w,d_ f,.int .i64 E]) (by simp)
             simp only at cB
             refine oj (fun st=>vB f w dir neg E qP q A qQ c0 ge st/\st.F 11= .ptr (n+7) 0 0/\st.F 12= .ptr (n+8) 0 0/\st.h.cells (n+7)=some [a7 (cW f.β w E:Nat)]/\st.h.cells (n+8)=some [a7 (b9 f.β w E:Nat)]/\n+7<st.h.next/\n+8<st.h.next) ?_ ?_
             · skip
               refine al [2,3,4,6,8,9,10,11,12] ?_
               intro F
               simp only[ak]
               intro aa af ad ag ao aA aB bA aX
               try simp[aS,f2,f3,f4,f6,f8,f9,f10] at aa af ad ag ao aA aB bA aX
               clear f2 f3 f4 f6 f8 f9 f10
               have f2:=aa
               have f3:=af
               have f4:=ad
               have f6:=ag
               have f8:=ao
               have f9:=aA
               have f10:=aB
               have f11:=bA
               have f12:=aX
               clear aa af ad ag ao aA aB bA aX
               generalize ((cW f.β w E:Nat):Int)=N at*
               generalize ((b9 f.β w E:Nat):Int)=D at*
               repeat' (first
                | refine ax ?_
                | ((fail_if_success (refine aQ ?_));(fail_if_success (refine aR ?_));refine aL ?_)
                | ((first|(refine az cz ?_;simp(disch:=omega) [cA,ba,cB,f2,f3,f4,f6,f8,f9,f10,f11,f12];(try(refine⟨by first|decide|rfl,?_⟩)))|(refine aK ?_;simp(disch:=omega) [cA,ba,cB,f2,f3,f4,f6,f8,f9,f10,f11,f12]));(try(refine al [2,3,4,6,8,9,10,11,12] ?_;intro F;simp only[ak];intro aa af ad ag ao aA aB bA aX;simp(disch:=omega) [cA,ba,cB,f2,f3,f4,f6,f8,f9,f10,f11,f12] at aa af ad ag ao aA aB bA aX;clear f2 f3 f4 f6 f8 f9 f10 f11 f12;have f2:=aa;have f3:=af;have f4:=ad;have f6:=ag;have f8:=ao;have f9:=aA;have f10:=aB;have f11:=bA;have f12:=aX;clear aa af ad ag ao aA aB bA aX)))
                | (refine aJ _ (by simp(disch:=omega) [cA,ba,cB,f2,f3,f4,f6,f8,f9,f10,f11,f12];rfl) (fun I=>?_) (fun I=>?_)<;>first|(exfalso;simp(disch:=omega) [cA,ba,cB] at I;done)|(exfalso;simp at I;omega)|(simp at I))
                | ((first|refine aH ?_|refine aN ?_);simp(disch:=omega) [cA,ba,cB,f2,f3,f4,f6,f8,f9,f10,f11,f12]))
               exact ⟨⟨⟨f2,f3,f4,f6,(by simp only[aG];(repeat rw[if_neg (by omega)]);exact cA),(by simp only[aG];(repeat rw[if_neg (by omega)]);exact ba),(by simp only[aG];(repeat rw[if_neg (by omega)]);exact br),by simp only;omega,rfl⟩,f8⟩,f9,f10,(by simp only[aG];(repeat rw[if_neg (by omega)]);exact dw),(by simp only[aG];(repeat rw[if_neg (by omega)]);exact eY),by simp only;omega,by simp only;omega⟩
             · generalize n+7=aaD
               generalize n+8=qT
               clear cB f2 f3 f4 f6 f8 f9 f10 cA ba br gw dw eY dH mG C n P l9
               rintro ⟨l9,⟨C,S,n,P⟩⟩ ⟨⟨⟨⟨f2,f3,f4,f6,cA,ba,br,gw,gs⟩,f8⟩,f9,f10,dw,eY,dH,mG⟩,f11,f12,rZ,dh,m1,dM⟩
               simp only at f2 f3 f4 f6 f8 f9 f10 f11 f12 cA ba br gw gs dw eY dH mG rZ dh m1 dM
               subst gs
               obtain⟨mj,w4⟩:=KR hz w E
               obtain⟨LQ,LR⟩:=Wy hz w E
               have YS:=zO hz w E
               have lm:=dL.xq hz kZ
               have aaE:(ai (cW f.β w E)).length<=80/\(ai (b9 f.β w E)).length<=80:=by
                have a6:=mn (b:=f.β) (n:=E.natAbs) (by omega)
                have qI:(ai w.num.natAbs).length<=12/\(ai w.den).length<=12:=by simp only[eV,bS] at hw;omega
                unfold cW b9
                by_cases aS:0<=E
                · rw[if_pos aS,if_pos aS,show E.toNat=E.natAbs by omega]
                  have:=hC w.den (f.β^E.natAbs)
                  omega
                · rw[if_neg aS,if_neg aS,show (-E).toNat=E.natAbs by omega]
                  have:=hC w.num.natAbs (f.β^E.natAbs)
                  omega
               rw[show er f.β dir neg (dZ w) E=Dn dir neg (e5 f.β (dZ w) E) (rs f.β (dZ w) E) from rfl]
               have LS:∀r:Rat,Dn dir neg (e5 f.β (dZ w) E) (rs f.β (dZ w) E)=if (decide (0<cW f.β w E%b9 f.β w E)&&ho dir neg (decide (e5 f.β (dZ w) E%2=1)) (gM (rs f.β (dZ w) E)))=true then e5 f.β (dZ w) E+1 else e5 f.β (dZ w) E:=fun _=>by
                unfold Dn;rw[show decide (0<rs f.β (dZ w) E)=decide (0<cW f.β w E%b9 f.β w E) from decide_eq_decide.2 LR]
               rw[LS 0,LQ]
               clear LS LQ LR
               rw[mj] at lm|-
               clear mj w4
               have bB:=Kf ((cW f.β w E:Int),(b9 f.β w E:Int)) ⟨by simp only[kS];omega,by simp only[kS];omega⟩ (args:=[a7 (cW f.β w E:Int),a7 (b9 f.β w E:Int)]) (by simp)
               simp only[if_neg (show ¬((b9 f.β w E:Nat):Int)=0 by omega),<-Int.natCast_ediv,<-Int.natCast_emod] at bB
               have bf:=Nat.mod_lt (cW f.β w E) YS
               have Iv:=f_ (Nat.le_of_lt bf)
               generalize cW f.β w E/b9 f.β w E=m at*
               generalize cW f.β w E%b9 f.β w E=r at*
               generalize cW f.β w E=N at*
               generalize b9 f.β w E=D at*
               have hr:=f_ (show r*2^1<=2*D by omega)
               have g':=yY (r:Int) trivial (args:=[a7 (r:Int)]) (by simp)
               have BQ:=hC 2 D
               have dD:(ai 2).length<=1:=c8.2 (by rw[pa];decide)
               have lz:=SX ((r:Int),1) ⟨by simp only[kS];omega,by simp only;omega⟩ (args:=[a7 (r:Int),bp 1]) (by simp)
               have LU:(r:Int)*2^1=((2*r:Nat):Int):=by omega
               have tcp:=Cd (((2*r:Nat):Int),(D:Int)) ⟨by simp only[kS];rw[show 2*r=r*2^1 by omega];omega,by simp only[kS];omega⟩ (args:=[a7 ((2*r:Nat):Int),a7 (D:Int)]) (by simp)
               have LV:f' ((2*r:Nat):Int) (D:Int)=(if 2*r<D then -1 else if D<2*r then 1 else 0):=by
                simp only[f',Int.ofNat_lt]
               simp only[LU,LV] at lz tcp
               clear LU LV hr BQ dD
               generalize (if 2*r<D then (-1:Int) else if D<2*r then 1 else 0)=I at*
               have t':(r=0/\gV (r:Int)=Z 0)\/(0<r/\gV (r:Int)=Z 1):=by
                rcases Nat.eq_zero_or_pos r with h|h
                · exact .inl ⟨h,by rw[h];rfl⟩
                · refine .inr ⟨h,?_⟩
                  unfold gV
                  rw[if_neg (by omega),if_neg (by omega)];rfl
               generalize aaF:(N:Int)=aaG at*
               generalize aaH:(D:Int)=Dz at*
               generalize aaI:(m:Int)=DA at*
               generalize aaJ:(r:Int)=DB at*
               generalize ((2*r:Nat):Int)=ej at*
               refine oj (fun st=>vB f w dir neg E qP q A qQ c0 ge st/\st.F 12= .ptr qT 0 0/\st.F 13= .ptr (n+7) 0 0/\st.F 14= .ptr (n+8) 0 0/\st.h.cells qT=some [a7 Dz]/\st.h.cells (n+7)=some [a7 DA]/\st.h.cells (n+8)=some [a7 DB]/\n+7<st.h.next/\n+8<st.h.next/\qT<st.h.next) ?_ ?_
               · skip
                 refine al [2,3,4,6,8,9,10,11,12,13,14] ?_
                 intro F
                 simp only[ak]
                 intro aa af ad ag ao aA aB bA aX aZ bs
                 try simp[aS,f2,f3,f4,f6,f8,f9,f10,f11,f12] at aa af ad ag ao aA aB bA aX aZ bs
                 clear f2 f3 f4 f6 f8 f9 f10 f11 f12
                 have f2:=aa
                 have f3:=af
                 have f4:=ad
                 have f6:=ag
                 have f8:=ao
                 have f9:=aA
                 have f10:=aB
                 have f11:=bA
                 have f12:=aX
                 have f13:=aZ
                 have f14:=bs
                 clear aa af ad ag ao aA aB bA aX aZ bs
                 repeat' (first
                  | refine ax ?_
                  | ((fail_if_success (refine aQ ?_));(fail_if_success (refine aR ?_));refine aL ?_)
                  | ((first|(refine az cz ?_;simp(disch:=omega) [cA,ba,rZ,dh,m1,dM,bB,f2,f3,f4,f6,f8,f9,f10,f11,f12,f13,f14];(try(refine⟨by first|decide|rfl,?_⟩)))|(refine aK ?_;simp(disch:=omega) [cA,ba,rZ,dh,m1,dM,bB,f2,f3,f4,f6,f8,f9,f10,f11,f12,f13,f14]));(try(refine al [2,3,4,6,8,9,10,11,12,13,14] ?_;intro F;simp only[ak];intro aa af ad ag ao aA aB bA aX aZ bs;simp(disch:=omega) [cA,ba,rZ,dh,m1,dM,bB,f2,f3,f4,f6,f8,f9,f10,f11,f12,f13,f14] at aa af ad ag ao aA aB bA aX aZ bs;clear f2 f3 f4 f6 f8 f9 f10 f11 f12 f13 f14;have f2:=aa;have f3:=af;have f4:=ad;have f6:=ag;have f8:=ao;have f9:=aA;have f10:=aB;have f11:=bA;have f12:=aX;have f13:=aZ;have f14:=bs;clear aa af ad ag ao aA aB bA aX aZ bs)))
                  | (refine aJ _ (by simp(disch:=omega) [cA,ba,rZ,dh,m1,dM,bB,f2,f3,f4,f6,f8,f9,f10,f11,f12,f13,f14];rfl) (fun I=>?_) (fun I=>?_)<;>first|(exfalso;simp(disch:=omega) [cA,ba,rZ,dh,m1,dM,bB] at I;done)|(exfalso;simp at I;omega)|(simp at I))
                  | ((first|refine aH ?_|refine aN ?_);simp(disch:=omega) [cA,ba,rZ,dh,m1,dM,bB,f2,f3,f4,f6,f8,f9,f10,f11,f12,f13,f14]))
                 exact ⟨⟨⟨f2,f3,f4,f6,(by simp only[aG];(repeat rw[if_neg (by omega)]);exact cA),(by simp only[aG];(repeat rw[if_neg (by omega)]);exact ba),(by simp only[aG];(repeat rw[if_neg (by omega)]);exact br),by simp only;omega,rfl⟩,f8⟩,f9,f10,(by simp only[aG];(repeat rw[if_neg (by omega)]);exact dw),(by simp only[aG];(repeat rw[if_neg (by omega)]);exact eY),by simp only;omega,by simp only;omega⟩
               · generalize n+7=DC
                 generalize n+8=vH
                 clear bB f2 f3 f4 f6 f8 f9 f10 f11 f12 cA ba br gw dw eY dH mG rZ dh m1 dM C n P l9
                 rintro ⟨l9,⟨C,S,n,P⟩⟩ ⟨⟨⟨⟨f2,f3,f4,f6,cA,ba,br,gw,gs⟩,f8⟩,f9,f10,dw,eY,dH,mG⟩,f12,f13,f14,dh,gx,dN,gO,dT,dM⟩
                 simp only at f2 f3 f4 f6 f8 f9 f10 f12 f13 f14 cA ba br gw gs dw eY dH mG dh gx dN dM gO dT
                 subst gs
                 have fk:DA.natAbs=m:=by omega
                 refine oj (fun st=>vB f w dir neg E qP q A qQ c0 ge st/\st.F 12= .ptr qT 0 0/\st.F 13= .ptr DC 0 0/\st.F 14= .ptr vH 0 0/\st.F 16= .bool (decide (m%2=1))/\st.h.cells qT=some [a7 Dz]/\st.h.cells DC=some [a7 DA]/\st.h.cells vH=some [a7 DB]/\DC<st.h.next/\vH<st.h.next/\qT<st.h.next) ?_ ?_
                 · have YT:(ai m= []/\m%2=0)\/(0<(ai m).length/\m%2=0)\/(0<(ai m).length/\m%2=1):=by
                    rcases Nat.eq_zero_or_pos m with h|h
                    · exact .inl ⟨by rw[h];exact eX,by rw[h]⟩
                    · have:=lk.2 (Nat.ne_of_gt h)
                      have h2:m%2=0\/m%2=1:=by omega
                      exact .inr (h2.imp (fun h=>⟨this,h⟩) (fun h=>⟨this,h⟩))
                   have av:a5 (ai m) 0&&&1=m%2:=by
                    rw[Nat.and_one_is_mod]
                    rw[gv,fC,Nat.div_one];omega
                   rcases YT with⟨gI,ck⟩|⟨gI,ck⟩|⟨gI,ck⟩
                   · rw[ck]
                     refine al [2,3,4,6,8,9,10,12,13,14,16] ?_
                     intro F
                     simp only[ak]
                     intro aa af ad ag ao aA aB aX aZ bs bQ
                     try simp[aS,f2,f3,f4,f6,f8,f9,f10,f12,f13,f14] at aa af ad ag ao aA aB aX aZ bs bQ
                     clear f2 f3 f4 f6 f8 f9 f10 f12 f13 f14
                     have f2:=aa
                     have f3:=af
                     have f4:=ad
                     have f6:=ag
                     have f8:=ao
                     have f9:=aA
                     have f10:=aB
                     have f12:=aX
                     have f13:=aZ
                     have f14:=bs
                     have f16:=bQ
                     clear aa af ad ag ao aA aB aX aZ bs bQ
                     repeat' (first
                      | refine ax ?_
                      | ((fail_if_success (refine aQ ?_));(fail_if_success (refine aR ?_));refine aL ?_)
                      | ((first|(refine az cz ?_;simp(disch:=omega) [dh,gx,dN,dM,gO,dT,fk,gI,f2,f3,f4,f6,f8,f9,f10,f12,f13,f14,f16];(try(refine⟨by first|decide|rfl,?_⟩)))|(refine aK ?_;simp(disch:=omega) [dh,gx,dN,dM,gO,dT,fk,gI,f2,f3,f4,f6,f8,f9,f10,f12,f13,f14,f16]));(try(refine al [2,3,4,6,8,9,10,12,13,14,16] ?_;intro F;simp only[ak];intro aa af ad ag ao aA aB aX aZ bs bQ;simp(disch:=omega) [dh,gx,dN,dM,gO,dT,fk,gI,f2,f3,f4,f6,f8,f9,f10,f12,f13,f14,f16] at aa af ad ag ao aA aB aX aZ bs bQ;clear f2 f3 f4 f6 f8 f9 f10 f12 f13 f14 f16;have f2:=aa;have f3:=af;have f4:=ad;have f6:=ag;have f8:=ao;have f9:=aA;have f10:=aB;have f12:=aX;have f13:=aZ;have f14:=bs;have f16:=bQ;clear aa af ad ag ao aA aB aX aZ bs bQ)))
                      | (refine aJ _ (by simp(disch:=omega) [dh,gx,dN,dM,gO,dT,fk,gI,f2,f3,f4,f6,f8,f9,f10,f12,f13,f14,f16];rfl) (fun I=>?_) (fun I=>?_)<;>first|(exfalso;simp(disch:=omega) [dh,gx,dN,dM,gO,dT,fk,gI] at I;done)|(exfalso;simp at I;omega)|(simp at I))
                      | ((first|refine aH ?_|refine aN ?_);simp(disch:=omega) [dh,gx,dN,dM,gO,dT,fk,gI,f2,f3,f4,f6,f8,f9,f10,f12,f13,f14,f16]))
                     exact ⟨⟨⟨f2,f3,f4,f6,cA,ba,br,by simp only;omega,rfl⟩,f8⟩,f9,f10,dw,eY,by simp only;omega,by simp only;omega⟩
                   · rw[ck]
                     have ew:=o9 gI
                     rw[ck] at av
                     refine al [2,3,4,6,8,9,10,12,13,14,16] ?_
                     intro F
                     simp only[ak]
                     intro aa af ad ag ao aA aB aX aZ bs bQ
                     try simp[aS,f2,f3,f4,f6,f8,f9,f10,f12,f13,f14] at aa af ad ag ao aA aB aX aZ bs bQ
                     clear f2 f3 f4 f6 f8 f9 f10 f12 f13 f14
                     have f2:=aa
                     have f3:=af
                     have f4:=ad
                     have f6:=ag
                     have f8:=ao
                     have f9:=aA
                     have f10:=aB
                     have f12:=aX
                     have f13:=aZ
                     have f14:=bs
                     have f16:=bQ
                     clear aa af ad ag ao aA aB aX aZ bs bQ
                     repeat' (first
                      | refine ax ?_
                      | ((fail_if_success (refine aQ ?_));(fail_if_success (refine aR ?_));refine aL ?_)
                      | ((first|(refine az cz ?_;simp(disch:=omega) [dh,gx,dN,dM,gO,dT,fk,gI,ew,av,f2,f3,f4,f6,f8,f9,f10,f12,f13,f14,f16];(try(refine⟨by first|decide|rfl,?_⟩)))|(refine aK ?_;simp(disch:=omega) [dh,gx,dN,dM,gO,dT,fk,gI,ew,av,f2,f3,f4,f6,f8,f9,f10,f12,f13,f14,f16]));(try(refine al [2,3,4,6,8,9,10,12,13,14,16] ?_;intro F;simp only[ak];intro aa af ad ag ao aA aB aX aZ bs bQ;simp(disch:=omega) [dh,gx,dN,dM,gO,dT,fk,gI,ew,av,f2,f3,f4,f6,f8,f9,f10,f12,f13,f14,f16] at aa af ad ag ao aA aB aX aZ bs bQ;clear f2 f3 f4 f6 f8 f9 f10 f12 f13 f14 f16;have f2:=aa;have f3:=af;have f4:=ad;have f6:=ag;have f8:=ao;have f9:=aA;have f10:=aB;have f12:=aX;have f13:=aZ;have f14:=bs;have f16:=bQ;clear aa af ad ag ao aA aB aX aZ bs bQ)))
                      | (refine aJ _ (by simp(disch:=omega) [dh,gx,dN,dM,gO,dT,fk,gI,ew,av,f2,f3,f4,f6,f8,f9,f10,f12,f13,f14,f16];rfl) (fun I=>?_) (fun I=>?_)<;>first|(exfalso;simp(disch:=omega) [dh,gx,dN,dM,gO,dT,fk,gI,ew,av] at I;done)|(exfalso;simp at I;omega)|(simp at I))
                      | ((first|refine aH ?_|refine aN ?_);simp(disch:=omega) [dh,gx,dN,dM,gO,dT,fk,gI,ew,av,f2,f3,f4,f6,f8,f9,f10,f12,f13,f14,f16]))
                     exact ⟨⟨⟨f2,f3,f4,f6,cA,ba,br,by simp only;omega,rfl⟩,f8⟩,f9,f10,dw,eY,by simp only;omega,by simp only;omega⟩
                   · rw[ck]
                     have ew:=o9 gI
                     rw[ck] at av
                     refine al [2,3,4,6,8,9,10,12,13,14,16] ?_
                     intro F
                     simp only[ak]
                     intro aa af ad ag ao aA aB aX aZ bs bQ
                     try simp[aS,f2,f3,f4,f6,f8,f9,f10,f12,f13,f14] at aa af ad ag ao aA aB aX aZ bs bQ
                     clear f2 f3 f4 f6 f8 f9 f10 f12 f13 f14
                     have f2:=aa
                     have f3:=af
                     have f4:=ad
                     have f6:=ag
                     have f8:=ao
                     have f9:=aA
                     have f10:=aB
                     have f12:=aX
                     have f13:=aZ
                     have f14:=bs
                     have f16:=bQ
                     clear aa af ad ag ao aA aB aX aZ bs bQ
                     repeat' (first
                      | refine ax ?_
                      | ((fail_if_success (refine aQ ?_));(fail_if_success (refine aR ?_));refine aL ?_)
                      | ((first|(refine az cz ?_;simp(disch:=omega) [dh,gx,dN,dM,gO,dT,fk,gI,ew,av,f2,f3,f4,f6,f8,f9,f10,f12,f13,f14,f16];(try(refine⟨by first|decide|rfl,?_⟩)))|(refine aK ?_;simp(disch:=omega) [dh,gx,dN,dM,gO,dT,fk,gI,ew,av,f2,f3,f4,f6,f8,f9,f10,f12,f13,f14,f16]));(try(refine al [2,3,4,6,8,9,10,12,13,14,16] ?_;intro F;simp only[ak];intro aa af ad ag ao aA aB aX aZ bs bQ;simp(disch:=omega) [dh,gx,dN,dM,gO,dT,fk,gI,ew,av,f2,f3,f4,f6,f8,f9,f10,f12,f13,f14,f16] at aa af ad ag ao aA aB aX aZ bs bQ;clear f2 f3 f4 f6 f8 f9 f10 f12 f13 f14 f16;have f2:=aa;have f3:=af;have f4:=ad;have f6:=ag;have f8:=ao;have f9:=aA;have f10:=aB;have f12:=aX;have f13:=aZ;have f14:=bs;have f16:=bQ;clear aa af ad ag ao aA aB aX aZ bs bQ)))
                      | (refine aJ _ (by simp(disch:=omega) [dh,gx,dN,dM,gO,dT,fk,gI,ew,av,f2,f3,f4,f6,f8,f9,f10,f12,f13,f14,f16];rfl) (fun I=>?_) (fun I=>?_)<;>first|(exfalso;simp(disch:=omega) [dh,gx,dN,dM,gO,dT,fk,gI,ew,av] at I;done)|(exfalso;simp at I;omega)|(simp at I))
                      | ((first|refine aH ?_|refine aN ?_);simp(disch:=omega) [dh,gx,dN,dM,gO,dT,fk,gI,ew,av,f2,f3,f4,f6,f8,f9,f10,f12,f13,f14,f16]))
                     exact ⟨⟨⟨f2,f3,f4,f6,cA,ba,br,by simp only;omega,rfl⟩,f8⟩,f9,f10,dw,eY,by simp only;omega,by simp only;omega⟩
                 · clear f2 f3 f4 f6 f8 f9 f10 f12 f13 f14 cA ba br gw dw eY dH mG dh gx dN dM gO dT C n P l9
                   rintro ⟨l9,⟨C,S,n,P⟩⟩ ⟨⟨⟨⟨f2,f3,f4,f6,cA,ba,br,gw,gs⟩,f8⟩,f9,f10,dw,eY,dH,mG⟩,f12,f13,f14,f16,dh,gx,dN,gO,dT,dM⟩
                   simp only at f2 f3 f4 f6 f8 f9 f10 f12 f13 f14 f16 cA ba br gw gs dw eY dH mG dh gx dN dM gO dT
                   subst gs
                   generalize decide (m%2=1)=fz at*
                   refine oj (fun st=>vB f w dir neg E qP q A qQ c0 ge st/\st.F 12= .ptr qT 0 0/\st.F 14= .ptr vH 0 0/\st.F 16= .bool fz/\st.F 17=aw m/\st.h.cells qT=some [a7 Dz]/\st.h.cells vH=some [a7 DB]/\vH<st.h.next/\qT<st.h.next) ?_ ?_
                   · skip
                     refine al [2,3,4,6,8,9,10,12,13,14,16,17] ?_
                     intro F
                     simp only[ak]
                     intro aa af ad ag ao aA aB aX aZ bs bQ bx
                     try simp[aS,f2,f3,f4,f6,f8,f9,f10,f12,f13,f14,f16] at aa af ad ag ao aA aB aX aZ bs bQ bx
                     clear f2 f3 f4 f6 f8 f9 f10 f12 f13 f14 f16
                     have f2:=aa
                     have f3:=af
                     have f4:=ad
                     have f6:=ag
                     have f8:=ao
                     have f9:=aA
                     have f10:=aB
                     have f12:=aX
                     have f13:=aZ
                     have f14:=bs
                     have f16:=bQ
                     have f17:=bx
                     clear aa af ad ag ao aA aB aX aZ bs bQ bx
                     repeat' (first
                      | refine ax ?_
                      | ((fail_if_success (refine aQ ?_));(fail_if_success (refine aR ?_));refine aL ?_)
                      | ((first|(refine az cz ?_;simp(disch:=omega) [dh,gx,dN,dM,gO,dT,fk,f2,f3,f4,f6,f8,f9,f10,f12,f13,f14,f16,f17];(try(refine⟨by first|decide|rfl,?_⟩)))|(refine aK ?_;simp(disch:=omega) [dh,gx,dN,dM,gO,dT,fk,f2,f3,f4,f6,f8,f9,f10,f12,f13,f14,f16,f17]));(try(refine al [2,3,4,6,8,9,10,12,13,14,16,17] ?_;intro F;simp only[ak];intro aa af ad ag ao aA aB aX aZ bs bQ bx;simp(disch:=omega) [dh,gx,dN,dM,gO,dT,fk,f2,f3,f4,f6,f8,f9,f10,f12,f13,f14,f16,f17] at aa af ad ag ao aA aB aX aZ bs bQ bx;clear f2 f3 f4 f6 f8 f9 f10 f12 f13 f14 f16 f17;have f2:=aa;have f3:=af;have f4:=ad;have f6:=ag;have f8:=ao;have f9:=aA;have f10:=aB;have f12:=aX;have f13:=aZ;have f14:=bs;have f16:=bQ;have f17:=bx;clear aa af ad ag ao aA aB aX aZ bs bQ bx)))
                      | (refine aJ _ (by simp(disch:=omega) [dh,gx,dN,dM,gO,dT,fk,f2,f3,f4,f6,f8,f9,f10,f12,f13,f14,f16,f17];rfl) (fun I=>?_) (fun I=>?_)<;>first|(exfalso;simp(disch:=omega) [dh,gx,dN,dM,gO,dT,fk] at I;done)|(exfalso;simp at I;omega)|(simp at I))
                      | ((first|refine aH ?_|refine aN ?_);simp(disch:=omega) [dh,gx,dN,dM,gO,dT,fk,f2,f3,f4,f6,f8,f9,f10,f12,f13,f14,f16,f17]))
                     exact ⟨⟨⟨f2,f3,f4,f6,cA,ba,br,by simp only;omega,rfl⟩,f8⟩,f9,f10,dw,eY,by simp only;omega,by simp only;omega⟩
                   · clear f2 f3 f4 f6 f8 f9 f10 f12 f13 f14 f16 cA ba br gw dw eY dH mG dh gx dN dM gO dT C n P l9
                     rintro ⟨l9,⟨C,S,n,P⟩⟩ ⟨⟨⟨⟨f2,f3,f4,f6,cA,ba,br,gw,gs⟩,f8⟩,f9,f10,dw,eY,dH,mG⟩,f12,f14,f16,f17,dh,dN,dT,dM⟩
                     simp only at f2 f3 f4 f6 f8 f9 f10 f12 f14 f16 f17 cA ba br gw gs dw eY dH mG dh dN dM dT
                     subst gs
                     obtain⟨l_,YU,a4⟩:=a4
                     have lA:∀oS,fv G (bk Tryz.prog) eR [] (.fn qQ) (.bool neg:: .bool fz:: .int .i64 I::c0) ⟨C,fun _=>false,oS,P⟩=some (.bool (ho dir neg fz I),⟨C,fun _=>false,oS+YU,P⟩):=fun oS=>a4 C oS P neg fz I eY
                     refine oj (fun st=>vB f w dir neg (carry f (if (decide (0<r)&&ho dir neg fz I)=true then m+1 else m) E).2 qP q A qQ c0 ge st/\∃e,st.F 17=cH (ai (carry f (if (decide (0<r)&&ho dir neg fz I)=true then m+1 else m) E).1) e) ?_ ?_
                     · rcases t' with⟨LW,sz⟩|⟨LW,sz⟩
                       · rw[decide_eq_false (by omega),Bool.false_and,if_neg Bool.false_ne_true,KP lm]
                         rw[sz] at g'
                         refine al [2,3,4,6,8,9,10,12,14,16,17,86] ?_
                         intro F
                         simp only[ak]
                         intro aa af ad ag ao aA aB aX bs bQ bx fJ
                         try simp[aS,f2,f3,f4,f6,f8,f9,f10,f12,f14,f16,f17] at aa af ad ag ao aA aB aX bs bQ bx fJ
                         clear f2 f3 f4 f6 f8 f9 f10 f12 f14 f16 f17
                         have f2:=aa
                         have f3:=af
                         have f4:=ad
                         have f6:=ag
                         have f8:=ao
                         have f9:=aA
                         have f10:=aB
                         have f12:=aX
                         have f14:=bs
                         have f16:=bQ
                         have f17:=bx
                         have f86:=fJ
                         clear aa af ad ag ao aA aB aX bs bQ bx fJ
                         repeat' (first
                          | refine ax ?_
                          | ((fail_if_success (refine aQ ?_));(fail_if_success (refine aR ?_));refine aL ?_)
                          | ((first|(refine az cz ?_;simp(disch:=omega) [dN,dT,g',f2,f3,f4,f6,f8,f9,f10,f12,f14,f16,f17,f86];(try(refine⟨by first|decide|rfl,?_⟩)))|(refine aK ?_;simp(disch:=omega) [dN,dT,g',f2,f3,f4,f6,f8,f9,f10,f12,f14,f16,f17,f86]));(try(refine al [2,3,4,6,8,9,10,12,14,16,17,86] ?_;intro F;simp only[ak];intro aa af ad ag ao aA aB aX bs bQ bx fJ;simp(disch:=omega) [dN,dT,g',f2,f3,f4,f6,f8,f9,f10,f12,f14,f16,f17,f86] at aa af ad ag ao aA aB aX bs bQ bx fJ;clear f2 f3 f4 f6 f8 f9 f10 f12 f14 f16 f17 f86;have f2:=aa;have f3:=af;have f4:=ad;have f6:=ag;have f8:=ao;have f9:=aA;have f10:=aB;have f12:=aX;have f14:=bs;have f16:=bQ;have f17:=bx;have f86:=fJ;clear aa af ad ag ao aA aB aX bs bQ bx fJ)))
                          | (refine aJ _ (by simp(disch:=omega) [dN,dT,g',f2,f3,f4,f6,f8,f9,f10,f12,f14,f16,f17,f86];rfl) (fun I=>?_) (fun I=>?_)<;>first|(exfalso;simp(disch:=omega) [dN,dT,g'] at I;done)|(exfalso;simp at I;omega)|(simp at I))
                          | ((first|refine aH ?_|refine aN ?_);simp(disch:=omega) [dN,dT,g',f2,f3,f4,f6,f8,f9,f10,f12,f14,f16,f17,f86]))
                         exact ⟨⟨⟨f2,f3,f4,f6,cA,ba,br,by simp only;omega,rfl⟩,f8⟩,f9,f10,dw,eY,by simp only;omega,by simp only;omega⟩
                       · rw[decide_eq_true LW,Bool.true_and]
                         rw[sz] at g'
                         cases AJ:ho dir neg fz I<;>rw[AJ] at lA
                         · rw[if_neg Bool.false_ne_true,KP lm]
                           refine al [2,3,4,6,8,9,10,12,14,16,17,86] ?_
                           intro F
                           simp only[ak]
                           intro aa af ad ag ao aA aB aX bs bQ bx fJ
                           try simp[aS,f2,f3,f4,f6,f8,f9,f10,f12,f14,f16,f17] at aa af ad ag ao aA aB aX bs bQ bx fJ
                           clear f2 f3 f4 f6 f8 f9 f10 f12 f14 f16 f17
                           have f2:=aa
                           have f3:=af
                           have f4:=ad
                           have f6:=ag
                           have f8:=ao
                           have f9:=aA
                           have f10:=aB
                           have f12:=aX
                           have f14:=bs
                           have f16:=bQ
                           have f17:=bx
                           have f86:=fJ
                           clear aa af ad ag ao aA aB aX bs bQ bx fJ
                           repeat' (first
                            | refine ax ?_
                            | ((fail_if_success (refine aQ ?_));(fail_if_success (refine aR ?_));refine aL ?_)
                            | ((first|(refine az cz ?_;simp(disch:=omega) [dw,dh,dN,dH,dM,dT,g',lz,tcp,lA,l_,f2,f3,f4,f6,f8,f9,f10,f12,f14,f16,f17,f86];(try(refine⟨by first|decide|rfl,?_⟩)))|(refine aK ?_;simp(disch:=omega) [dw,dh,dN,dH,dM,dT,g',lz,tcp,lA,l_,f2,f3,f4,f6,f8,f9,f10,f12,f14,f16,f17,f86]));(try(refine al [2,3,4,6,8,9,10,12,14,16,17,86] ?_;intro F;simp only[ak];intro aa af ad ag ao aA aB aX bs bQ bx fJ;simp(disch:=omega) [dw,dh,dN,dH,dM,dT,g',lz,tcp,lA,l_,f2,f3,f4,f6,f8,f9,f10,f12,f14,f16,f17,f86] at aa af ad ag ao aA aB aX bs bQ bx fJ;clear f2 f3 f4 f6 f8 f9 f10 f12 f14 f16 f17 f86;have f2:=aa;have f3:=af;have f4:=ad;have f6:=ag;have f8:=ao;have f9:=aA;have f10:=aB;have f12:=aX;have f14:=bs;have f16:=bQ;have f17:=bx;have f86:=fJ;clear aa af ad ag ao aA aB aX bs bQ bx fJ)))
                            | (refine aJ _ (by simp(disch:=omega) [dw,dh,dN,dH,dM,dT,g',lz,tcp,lA,l_,f2,f3,f4,f6,f8,f9,f10,f12,f14,f16,f17,f86];rfl) (fun I=>?_) (fun I=>?_)<;>first|(exfalso;simp(disch:=omega) [dw,dh,dN,dH,dM,dT,g',lz,tcp,lA,l_] at I;done)|(exfalso;simp at I;omega)|(simp at I))
                            | ((first|refine aH ?_|refine aN ?_);simp(disch:=omega) [dw,dh,dN,dH,dM,dT,g',lz,tcp,lA,l_,f2,f3,f4,f6,f8,f9,f10,f12,f14,f16,f17,f86]))
                           exact ⟨⟨⟨f2,f3,f4,f6,cA,ba,br,by simp only;omega,rfl⟩,f8⟩,f9,f10,dw,eY,by simp only;omega,by simp only;omega⟩
                         · rw[if_pos rfl]
                           have a1:=Dk aT lm
                           have cP:=W'
                           have fV:=k5 m 1
                           have a6:=mn (b:=f.β) (n:=f.p) (by omega)
                           have m7:=mn (b:=f.β) (n:=f.p - 1) (by omega)
                           have to:nD [e3 1]=some (cH (ai 1) false):=wY 1 (by decide) (args:=[e3 1]) (by simp)
                           have e6:=ny (a:=m) (b:=1) (e:=false) (e':=false) (by omega) (by omega)
                           have dA:=rV (f,f.p) ⟨tB,by simp only;omega⟩ (args:=[d_ f,bp f.p]) (by simp)
                           have tE:=rV (f,f.p - 1) ⟨tB,by simp only;omega⟩ (args:=[d_ f,bp (f.p - 1)]) (by simp)
                           have ds:=qu (a:=m+1) (b:=f.β^f.p) (e:=false) (e':=false) (by omega) (by omega)
                           have ce:=V_ (m+1) (f.β^f.p)
                           simp only at dA tE
                           generalize ai 1=ck at*
                           by_cases eU:m+1=f.β^f.p
                           · have eT:IntKind.i64.wrap (E+Z 1)=E+Z 1:=wrap_i64 (by simp only[Z];omega) (by simp only[Z];omega)
                             rw[show carry f (m+1) E=(f.β^(f.p - 1),E+1) from if_pos eU]
                             rw[decide_eq_true eU] at ce
                             clear eU lm a6 m7 a1 cP fV
                             generalize cT (m+1) (f.β^f.p)=dV at*
                             generalize f.β^f.p=n' at*
                             generalize f.β^(f.p - 1)=aaK at*
                             generalize m+1=bz at*
                             refine al [2,3,4,6,8,9,10,12,14,16,17,86,96] ?_
                             intro F
                             simp only[ak]
                             intro aa af ad ag ao aA aB aX bs bQ bx fJ lP
                             try simp[aS,f2,f3,f4,f6,f8,f9,f10,f12,f14,f16,f17] at aa af ad ag ao aA aB aX bs bQ bx fJ lP
                             clear f2 f3 f4 f6 f8 f9 f10 f12 f14 f16 f17
                             have f2:=aa
                             have f3:=af
                             have f4:=ad
                             have f6:=ag
                             have f8:=ao
                             have f9:=aA
                             have f10:=aB
                             have f12:=aX
                             have f14:=bs
                             have f16:=bQ
                             have f17:=bx
                             have f86:=fJ
                             have f96:=lP
                             clear aa af ad ag ao aA aB aX bs bQ bx fJ lP
                             repeat' (first
                              | refine ax ?_
                              | ((fail_if_success (refine aQ ?_));(fail_if_success (refine aR ?_));refine aL ?_)
                              | ((first|(refine az cz ?_;simp(disch:=omega) [ba,dw,dh,dN,dH,dM,dT,g',lz,tcp,lA,l_,to,e6,dA,tE,ds,ce,eT,f2,f3,f4,f6,f8,f9,f10,f12,f14,f16,f17,f86,f96];(try(refine⟨by first|decide|rfl,?_⟩)))|(refine aK ?_;simp(disch:=omega) [ba,dw,dh,dN,dH,dM,dT,g',lz,tcp,lA,l_,to,e6,dA,tE,ds,ce,eT,f2,f3,f4,f6,f8,f9,f10,f12,f14,f16,f17,f86,f96]));(try(refine al [2,3,4,6,8,9,10,12,14,16,17,86,96] ?_;intro F;simp only[ak];intro aa af ad ag ao aA aB aX bs bQ bx fJ lP;simp(disch:=omega) [ba,dw,dh,dN,dH,dM,dT,g',lz,tcp,lA,l_,to,e6,dA,tE,ds,ce,eT,f2,f3,f4,f6,f8,f9,f10,f12,f14,f16,f17,f86,f96] at aa af ad ag ao aA aB aX bs bQ bx fJ lP;clear f2 f3 f4 f6 f8 f9 f10 f12 f14 f16 f17 f86 f96;have f2:=aa;have f3:=af;have f4:=ad;have f6:=ag;have f8:=ao;have f9:=aA;have f10:=aB;have f12:=aX;have f14:=bs;have f16:=bQ;have f17:=bx;have f86:=fJ;have f96:=lP;clear aa af ad ag ao aA aB aX bs bQ bx fJ lP)))
                              | (refine aJ _ (by simp(disch:=omega) [ba,dw,dh,dN,dH,dM,dT,g',lz,tcp,lA,l_,to,e6,dA,tE,ds,ce,eT,f2,f3,f4,f6,f8,f9,f10,f12,f14,f16,f17,f86,f96];rfl) (fun I=>?_) (fun I=>?_)<;>first|(exfalso;simp(disch:=omega) [ba,dw,dh,dN,dH,dM,dT,g',lz,tcp,lA,l_,to,e6,dA,tE,ds,ce,eT] at I;done)|(exfalso;simp at I;omega)|(simp at I))
                              | ((first|refine aH ?_|refine aN ?_);simp(disch:=omega) [ba,dw,dh,dN,dH,dM,dT,g',lz,tcp,lA,l_,to,e6,dA,tE,ds,ce,eT,f2,f3,f4,f6,f8,f9,f10,f12,f14,f16,f17,f86,f96]))
                             exact ⟨⟨⟨f2,f3,f4,f6,cA,ba,br,by simp only;omega,rfl⟩,f8⟩,f9,rfl,dw,eY,by simp only;omega,by simp only;omega⟩
                           · rw[show carry f (m+1) E=(m+1,E) from if_neg eU]
                             rw[decide_eq_false eU] at ce
                             clear eU lm a6 m7 a1 cP fV
                             generalize cT (m+1) (f.β^f.p)=dV at*
                             generalize f.β^f.p=n' at*
                             generalize m+1=bz at*
                             refine al [2,3,4,6,8,9,10,12,14,16,17,86,96] ?_
                             intro F
                             simp only[ak]
                             intro aa af ad ag ao aA aB aX bs bQ bx fJ lP
                             try simp[aS,f2,f3,f4,f6,f8,f9,f10,f12,f14,f16,f17] at aa af ad ag ao aA aB aX bs bQ bx fJ lP
                             clear f2 f3 f4 f6 f8 f9 f10 f12 f14 f16 f17
                             have f2:=aa
                             have f3:=af
                             have f4:=ad
                             have f6:=ag
                             have f8:=ao
                             have f9:=aA
                             have f10:=aB
                             have f12:=aX
                             have f14:=bs
                             have f16:=bQ
                             have f17:=bx
                             have f86:=fJ
                             have f96:=lP
                             clear aa af ad ag ao aA aB aX bs bQ bx fJ lP
                             repeat' (first
                              | refine ax ?_
                              | ((fail_if_success (refine aQ ?_));(fail_if_success (refine aR ?_));refine aL ?_)
                              | ((first|(refine az cz ?_;simp(disch:=omega) [ba,dw,dh,dN,dH,dM,dT,g',lz,tcp,lA,l_,to,e6,dA,ds,ce,f2,f3,f4,f6,f8,f9,f10,f12,f14,f16,f17,f86,f96];(try(refine⟨by first|decide|rfl,?_⟩)))|(refine aK ?_;simp(disch:=omega) [ba,dw,dh,dN,dH,dM,dT,g',lz,tcp,lA,l_,to,e6,dA,ds,ce,f2,f3,f4,f6,f8,f9,f10,f12,f14,f16,f17,f86,f96]));(try(refine al [2,3,4,6,8,9,10,12,14,16,17,86,96] ?_;intro F;simp only[ak];intro aa af ad ag ao aA aB aX bs bQ bx fJ lP;simp(disch:=omega) [ba,dw,dh,dN,dH,dM,dT,g',lz,tcp,lA,l_,to,e6,dA,ds,ce,f2,f3,f4,f6,f8,f9,f10,f12,f14,f16,f17,f86,f96] at aa af ad ag ao aA aB aX bs bQ bx fJ lP;clear f2 f3 f4 f6 f8 f9 f10 f12 f14 f16 f17 f86 f96;have f2:=aa;have f3:=af;have f4:=ad;have f6:=ag;have f8:=ao;have f9:=aA;have f10:=aB;have f12:=aX;have f14:=bs;have f16:=bQ;have f17:=bx;have f86:=fJ;have f96:=lP;clear aa af ad ag ao aA aB aX bs bQ bx fJ lP)))
                              | (refine aJ _ (by simp(disch:=omega) [ba,dw,dh,dN,dH,dM,dT,g',lz,tcp,lA,l_,to,e6,dA,ds,ce,f2,f3,f4,f6,f8,f9,f10,f12,f14,f16,f17,f86,f96];rfl) (fun I=>?_) (fun I=>?_)<;>first|(exfalso;simp(disch:=omega) [ba,dw,dh,dN,dH,dM,dT,g',lz,tcp,lA,l_,to,e6,dA,ds,ce] at I;done)|(exfalso;simp at I;omega)|(simp at I))
                              | ((first|refine aH ?_|refine aN ?_);simp(disch:=omega) [ba,dw,dh,dN,dH,dM,dT,g',lz,tcp,lA,l_,to,e6,dA,ds,ce,f2,f3,f4,f6,f8,f9,f10,f12,f14,f16,f17,f86,f96]))
                             exact ⟨⟨⟨f2,f3,f4,f6,cA,ba,br,by simp only;omega,rfl⟩,f8⟩,f9,f10,dw,eY,by simp only;omega,by simp only;omega⟩
                     · have aaL:(carry f (if (decide (0<r)&&ho dir neg fz I)=true then m+1 else m) E).2=(carry f (if (decide (0<r)&&ho dir neg fz I)=true then m+1 else m) E).2:=rfl
                       generalize (carry f (if (decide (0<r)&&ho dir neg fz I)=true then m+1 else m) E).2=c at*
                       generalize (carry f (if (decide (0<r)&&ho dir neg fz I)=true then m+1 else m) E).1=M at*
                       clear lA a4 tcp lz g' t' fk f2 f3 f4 f6 f8 f9 f10 f12 f14 f16 f17 cA ba br gw dw eY dH mG dh dN dM dT C n P l9
                       rintro ⟨l9,⟨C,S,n,P⟩⟩ ⟨⟨⟨⟨f2,f3,f4,f6,cA,ba,br,gw,gs⟩,f8⟩,f9,f10,dw,eY,dH,mG⟩,aaM,f17⟩
                       simp only at f2 f3 f4 f6 f8 f9 f10 f17 cA ba br gw gs dw eY dH mG
                       subst gs
                       obtain⟨oR,YV,he⟩:=bq
                       have oa:∀oS,fv G (bk Tryz.prog) eR [] (.fn ge) [.bool neg] ⟨C,fun _=>false,oS,P⟩=some (.bool (vx dir neg),⟨C,fun _=>false,oS+YV,P⟩):=fun oS=>he C oS P neg
                       have qU:=XP (f,neg) aT (args:=[d_ f,.bool neg]) (by simp)
                       simp only at qU
                       refine al [2,3,4,6,7,8,9,10,17,104,110,119] ?_
                       intro F
                       simp only[ak]
                       intro aa af ad ag ar ao aA aB bx ku kv dz
                       try simp[aS,f2,f3,f4,f6,f8,f9,f10,f17] at aa af ad ag ar ao aA aB bx ku kv dz
                       clear f2 f3 f4 f6 f8 f9 f10 f17
                       have f2:=aa
                       have f3:=af
                       have f4:=ad
                       have f6:=ag
                       have f7:=ar
                       have f8:=ao
                       have f9:=aA
                       have f10:=aB
                       have f17:=bx
                       have f104:=ku
                       have f110:=kv
                       have f119:=dz
                       clear aa af ad ag ar ao aA aB bx ku kv dz
                       unfold pick
                       by_cases eB:M=0
                       · rw[if_pos eB]
                         have hJ:(ai M)= []:=g3.2 eB
                         have bM:ai 0= []:=eX
                         clear eB qU
                         repeat' (first
                          | refine ax ?_
                          | ((fail_if_success (refine aQ ?_));(fail_if_success (refine aR ?_));refine aL ?_)
                          | ((first|(refine az cz ?_;simp(disch:=omega) [ba,br,hJ,bM,f2,f3,f4,f6,f7,f8,f9,f10,f17,f104,f110,f119];(try(refine⟨by first|decide|rfl,?_⟩)))|(refine aK ?_;simp(disch:=omega) [ba,br,hJ,bM,f2,f3,f4,f6,f7,f8,f9,f10,f17,f104,f110,f119]));(try(refine al [2,3,4,6,7,8,9,10,17,104,110,119] ?_;intro F;simp only[ak];intro aa af ad ag ar ao aA aB bx ku kv dz;simp(disch:=omega) [ba,br,hJ,bM,f2,f3,f4,f6,f7,f8,f9,f10,f17,f104,f110,f119] at aa af ad ag ar ao aA aB bx ku kv dz;clear f2 f3 f4 f6 f7 f8 f9 f10 f17 f104 f110 f119;have f2:=aa;have f3:=af;have f4:=ad;have f6:=ag;have f7:=ar;have f8:=ao;have f9:=aA;have f10:=aB;have f17:=bx;have f104:=ku;have f110:=kv;have f119:=dz;clear aa af ad ag ar ao aA aB bx ku kv dz)))
                          | (refine aJ _ (by simp(disch:=omega) [ba,br,hJ,bM,f2,f3,f4,f6,f7,f8,f9,f10,f17,f104,f110,f119];rfl) (fun I=>?_) (fun I=>?_)<;>first|(exfalso;simp(disch:=omega) [ba,br,hJ,bM] at I;done)|(exfalso;simp at I;omega)|(simp at I))
                          | ((first|refine aH ?_|refine aN ?_);simp(disch:=omega) [ba,br,hJ,bM,f2,f3,f4,f6,f7,f8,f9,f10,f17,f104,f110,f119]))
                       · rw[if_neg eB]
                         have hJ:((ai M).length == 0)=false:=by simpa using fun h=>eB (g3.1 h)
                         by_cases lD:c<=f.an
                         · rw[if_pos lD]
                           have ih:(c<=f.an)=True:=eq_true lD
                           clear qU eB lD
                           repeat' (first
                            | refine ax ?_
                            | ((fail_if_success (refine aQ ?_));(fail_if_success (refine aR ?_));refine aL ?_)
                            | ((first|(refine az cz ?_;simp(disch:=omega) [ba,br,hJ,ih,f2,f3,f4,f6,f7,f8,f9,f10,f17,f104,f110,f119];(try(refine⟨by first|decide|rfl,?_⟩)))|(refine aK ?_;simp(disch:=omega) [ba,br,hJ,ih,f2,f3,f4,f6,f7,f8,f9,f10,f17,f104,f110,f119]));(try(refine al [2,3,4,6,7,8,9,10,17,104,110,119] ?_;intro F;simp only[ak];intro aa af ad ag ar ao aA aB bx ku kv dz;simp(disch:=omega) [ba,br,hJ,ih,f2,f3,f4,f6,f7,f8,f9,f10,f17,f104,f110,f119] at aa af ad ag ar ao aA aB bx ku kv dz;clear f2 f3 f4 f6 f7 f8 f9 f10 f17 f104 f110 f119;have f2:=aa;have f3:=af;have f4:=ad;have f6:=ag;have f7:=ar;have f8:=ao;have f9:=aA;have f10:=aB;have f17:=bx;have f104:=ku;have f110:=kv;have f119:=dz;clear aa af ad ag ar ao aA aB bx ku kv dz)))
                            | (refine aJ _ (by simp(disch:=omega) [ba,br,hJ,ih,f2,f3,f4,f6,f7,f8,f9,f10,f17,f104,f110,f119];rfl) (fun I=>?_) (fun I=>?_)<;>first|(exfalso;simp(disch:=omega) [ba,br,hJ,ih] at I;done)|(exfalso;simp at I;omega)|(simp at I))
                            | ((first|refine aH ?_|refine aN ?_);simp(disch:=omega) [ba,br,hJ,ih,f2,f3,f4,f6,f7,f8,f9,f10,f17,f104,f110,f119]))
                         · rw[if_neg lD]
                           have ih:(c<=f.an)=False:=eq_false lD
                           clear eB lD
                           generalize tt f neg=A6 at*
                           cases pG:vx dir neg<;>rw[pG] at oa
                           · rw[if_neg Bool.false_ne_true]
                             repeat' (first
                              | refine ax ?_
                              | ((fail_if_success (refine aQ ?_));(fail_if_success (refine aR ?_));refine aL ?_)
                              | ((first|(refine az cz ?_;simp(disch:=omega) [ba,br,dw,dH,hJ,ih,oa,oR,qU,f2,f3,f4,f6,f7,f8,f9,f10,f17,f104,f110,f119];(try(refine⟨by first|decide|rfl,?_⟩)))|(refine aK ?_;simp(disch:=omega) [ba,br,dw,dH,hJ,ih,oa,oR,qU,f2,f3,f4,f6,f7,f8,f9,f10,f17,f104,f110,f119]));(try(refine al [2,3,4,6,7,8,9,10,17,104,110,119] ?_;intro F;simp only[ak];intro aa af ad ag ar ao aA aB bx ku kv dz;simp(disch:=omega) [ba,br,dw,dH,hJ,ih,oa,oR,qU,f2,f3,f4,f6,f7,f8,f9,f10,f17,f104,f110,f119] at aa af ad ag ar ao aA aB bx ku kv dz;clear f2 f3 f4 f6 f7 f8 f9 f10 f17 f104 f110 f119;have f2:=aa;have f3:=af;have f4:=ad;have f6:=ag;have f7:=ar;have f8:=ao;have f9:=aA;have f10:=aB;have f17:=bx;have f104:=ku;have f110:=kv;have f119:=dz;clear aa af ad ag ar ao aA aB bx ku kv dz)))
                              | (refine aJ _ (by simp(disch:=omega) [ba,br,dw,dH,hJ,ih,oa,oR,qU,f2,f3,f4,f6,f7,f8,f9,f10,f17,f104,f110,f119];rfl) (fun I=>?_) (fun I=>?_)<;>first|(exfalso;simp(disch:=omega) [ba,br,dw,dH,hJ,ih,oa,oR,qU] at I;done)|(exfalso;simp at I;omega)|(simp at I))
                              | ((first|refine aH ?_|refine aN ?_);simp(disch:=omega) [ba,br,dw,dH,hJ,ih,oa,oR,qU,f2,f3,f4,f6,f7,f8,f9,f10,f17,f104,f110,f119]))
                           · rw[if_pos rfl]
                             have bM:ai 0= []:=eX
                             repeat' (first
                              | refine ax ?_
                              | ((fail_if_success (refine aQ ?_));(fail_if_success (refine aR ?_));refine aL ?_)
                              | ((first|(refine az cz ?_;simp(disch:=omega) [ba,br,dw,dH,hJ,ih,oa,oR,bM,f2,f3,f4,f6,f7,f8,f9,f10,f17,f104,f110,f119];(try(refine⟨by first|decide|rfl,?_⟩)))|(refine aK ?_;simp(disch:=omega) [ba,br,dw,dH,hJ,ih,oa,oR,bM,f2,f3,f4,f6,f7,f8,f9,f10,f17,f104,f110,f119]));(try(refine al [2,3,4,6,7,8,9,10,17,104,110,119] ?_;intro F;simp only[ak];intro aa af ad ag ar ao aA aB bx ku kv dz;simp(disch:=omega) [ba,br,dw,dH,hJ,ih,oa,oR,bM,f2,f3,f4,f6,f7,f8,f9,f10,f17,f104,f110,f119] at aa af ad ag ar ao aA aB bx ku kv dz;clear f2 f3 f4 f6 f7 f8 f9 f10 f17 f104 f110 f119;have f2:=aa;have f3:=af;have f4:=ad;have f6:=ag;have f7:=ar;have f8:=ao;have f9:=aA;have f10:=aB;have f17:=bx;have f104:=ku;have f110:=kv;have f119:=dz;clear aa af ad ag ar ao aA aB bx ku kv dz)))
                              | (refine aJ _ (by simp(disch:=omega) [ba,br,dw,dH,hJ,ih,oa,oR,bM,f2,f3,f4,f6,f7,f8,f9,f10,f17,f104,f110,f119];rfl) (fun I=>?_) (fun I=>?_)<;>first|(exfalso;simp(disch:=omega) [ba,br,dw,dH,hJ,ih,oa,oR,bM] at I;done)|(exfalso;simp at I;omega)|(simp at I))
                              | ((first|refine aH ?_|refine aN ?_);simp(disch:=omega) [ba,br,dw,dH,hJ,ih,oa,oR,bM,f2,f3,f4,f6,f7,f8,f9,f10,f17,f104,f110,f119]))
end
section
attribute [local irreducible] cQ
attribute [local simp] ek eL du
noncomputable def YW:FuncId->Option (List J->Option J):=da []
theorem YX:∀f T,YW f=some T->bl Tryz.prog G f T:=dc (by simp)
noncomputable def xD:List J->Option J:=cl (fun z:qO=>True) (fun z=>[rX z]) (fun z=>d_ (p2 z))
theorem YY (z:qO) (h:True) {args:List J} (he:args.map J.loose= [rX z]):xD args=some (d_ (p2 z)):=cI (fun z w h=>by first|(simp only[ly,fR,fQ,List.cons.injEq,J.int.injEq,J.bool.injEq,J.sl.injEq,bT,bU,bY,bZ,bX,bG,bL,bV,bI,true_and,and_true] at h;simp[h];done)|(simp only[J.agg.injEq,ly,fR,fQ,List.cons.injEq,J.int.injEq,J.bool.injEq,J.sl.injEq,bT,bU,bY,bZ,bX,bG,bL,bV,bI,true_and,and_true] at h;simp[h])) z h he
theorem YZ:bl Tryz.prog G 29 xD:=by
 refine cJ mixed YX O8 fun z aV=>?_
 obtain⟨r,p,bd,an⟩:=z
 have a1:=xv (a:=r) (k:=1) (by decide)
 have cP:=xv (a:=r) (k:=8) (by decide)
 have fV:=xv (a:=p) (k:=65535) (by decide)
 have hE:=xv (a:=bd) (k:=65535) (by decide)
 have ga:=xv (a:=an) (k:=65535) (by decide)
 simp only[p2]
 generalize l8 r 1=x1 at*
 generalize l8 r 8=x2 at*
 generalize l8 p 65535=Y0 at*
 generalize l8 bd 65535=DD at*
 generalize l8 an 65535=DE at*
 have CQ:=Nat.mod_lt DD (show 0<31 by decide)
 have aaN:=Nat.mod_lt DE (show 0<21 by decide)
 have aaO:=Nat.mod_lt Y0 (show 0<10 by decide)
 obtain⟨l,a6⟩:∃l:Int,l=((DD%31:Nat):Int) - 20:=⟨_,rfl⟩
 have wl:IntKind.i64.wrap (Z (DD%31) - Z 20)=l:=by rw[a6];exact wrap_i64 (by simp only[Z];omega) (by simp only[Z];omega)
 have l':IntKind.i64.wrap (l+Z (DE%21))=l+Z (DE%21):=wrap_i64 (by simp only[Z];omega) (by simp only[Z];omega)
 rw[<-a6]
 clear a6 CQ
 unfold i29
 by_cases ae:x1=0
 · have aj:(x1 == 0)=true:=by simpa using ae
   by_cases h2:x2=8
   · have aq:(x2 == 8)=true:=by simpa using h2
     rw[if_pos ⟨ae,h2⟩]
     refine al [0,1,2,3,24] fun F=>?_
     simp only[ak]
     intro f0 f1 f2 f3 f24
     simp[a8] at f0 f1 f2 f3 f24
     repeat' (first
      | refine ax ?_
      | ((fail_if_success (refine aQ ?_));(fail_if_success (refine aR ?_));refine aL ?_)
      | ((first|(refine az aM ?_;simp(disch:=omega) [a1,cP,fV,hE,ga,aj,aq,ae,h2,wl,l',f0,f1,f2,f3,f24];(try(refine⟨by first|decide|rfl,?_⟩)))|(refine aK ?_;simp(disch:=omega) [a1,cP,fV,hE,ga,aj,aq,ae,h2,wl,l',f0,f1,f2,f3,f24]));(try(refine al [0,1,2,3,24] ?_;intro F;simp only[ak];intro U ab aa af cL;simp(disch:=omega) [a1,cP,fV,hE,ga,aj,aq,ae,h2,wl,l',f0,f1,f2,f3,f24] at U ab aa af cL;clear f0 f1 f2 f3 f24;have f0:=U;have f1:=ab;have f2:=aa;have f3:=af;have f24:=cL;clear U ab aa af cL)))
      | (refine aJ _ (by simp(disch:=omega) [a1,cP,fV,hE,ga,aj,aq,ae,h2,wl,l',f0,f1,f2,f3,f24];rfl) (fun I=>?_) (fun I=>?_)<;>first|(exfalso;simp(disch:=omega) [a1,cP,fV,hE,ga,aj,aq,ae,h2,wl,l'] at I;done)|(exfalso;simp at I;omega)|(simp at I))
      | ((first|refine aH ?_|refine aN ?_);simp(disch:=omega) [a1,cP,fV,hE,ga,aj,aq,ae,h2,wl,l',f0,f1,f2,f3,f24]))
   · have aq:(x2 == 8)=false:=by simpa using h2
     rw[if_neg (fun h=>h2 h.2)]
     refine al [0,1,2,3,24] fun F=>?_
     simp only[ak]
     intro f0 f1 f2 f3 f24
     simp[a8] at f0 f1 f2 f3 f24
     repeat' (first
      | refine ax ?_
      | ((fail_if_success (refine aQ ?_));(fail_if_success (refine aR ?_));refine aL ?_)
      | ((first|(refine az aM ?_;simp(disch:=omega) [a1,cP,fV,hE,ga,aj,aq,ae,h2,wl,l',f0,f1,f2,f3,f24];(try(refine⟨by first|decide|rfl,?_⟩)))|(refine aK ?_;simp(disch:=omega) [a1,cP,fV,hE,ga,aj,aq,ae,h2,wl,l',f0,f1,f2,f3,f24]));(try(refine al [0,1,2,3,24] ?_;intro F;simp only[ak];intro U ab aa af cL;simp(disch:=omega) [a1,cP,fV,hE,ga,aj,aq,ae,h2,wl,l',f0,f1,f2,f3,f24] at U ab aa af cL;clear f0 f1 f2 f3 f24;have f0:=U;have f1:=ab;have f2:=aa;have f3:=af;have f24:=cL;clear U ab aa af cL)))
      | (refine aJ _ (by simp(disch:=omega) [a1,cP,fV,hE,ga,aj,aq,ae,h2,wl,l',f0,f1,f2,f3,f24];rfl) (fun I=>?_) (fun I=>?_)<;>first|(exfalso;simp(disch:=omega) [a1,cP,fV,hE,ga,aj,aq,ae,h2,wl,l'] at I;done)|(exfalso;simp at I;omega)|(simp at I))
      | ((first|refine aH ?_|refine aN ?_);simp(disch:=omega) [a1,cP,fV,hE,ga,aj,aq,ae,h2,wl,l',f0,f1,f2,f3,f24]))
 · have aj:(x1 == 0)=false:=by simpa using ae
   rw[if_neg (fun h=>ae h.1)]
   refine al [0,1,2,3,24] fun F=>?_
   simp only[ak]
   intro f0 f1 f2 f3 f24
   simp[a8] at f0 f1 f2 f3 f24
   repeat' (first
    | refine ax ?_
    | ((fail_if_success (refine aQ ?_));(fail_if_success (refine aR ?_));refine aL ?_)
    | ((first|(refine az aM ?_;simp(disch:=omega) [a1,cP,fV,hE,ga,aj,ae,wl,l',f0,f1,f2,f3,f24];(try(refine⟨by first|decide|rfl,?_⟩)))|(refine aK ?_;simp(disch:=omega) [a1,cP,fV,hE,ga,aj,ae,wl,l',f0,f1,f2,f3,f24]));(try(refine al [0,1,2,3,24] ?_;intro F;simp only[ak];intro U ab aa af cL;simp(disch:=omega) [a1,cP,fV,hE,ga,aj,ae,wl,l',f0,f1,f2,f3,f24] at U ab aa af cL;clear f0 f1 f2 f3 f24;have f0:=U;have f1:=ab;have f2:=aa;have f3:=af;have f24:=cL;clear U ab aa af cL)))
    | (refine aJ _ (by simp(disch:=omega) [a1,cP,fV,hE,ga,aj,ae,wl,l',f0,f1,f2,f3,f24];rfl) (fun I=>?_) (fun I=>?_)<;>first|(exfalso;simp(disch:=omega) [a1,cP,fV,hE,ga,aj,ae,wl,l'] at I;done)|(exfalso;simp at I;omega)|(simp at I))
    | ((first|refine aH ?_|refine aN ?_);simp(disch:=omega) [a1,cP,fV,hE,ga,aj,ae,wl,l',f0,f1,f2,f3,f24]))
end
section
attribute [local irreducible] cQ
attribute [local simp] ek eL du
abbrev vI:=Bool × List Nat × List Nat
abbrev LX (q r:vI):J:= .agg [.bool q.1,cH q.2.1 false,cH q.2.2 false,.bool r.1,cH r.2.1 false,cH r.2.2 false]
theorem LY {q:vI} (ae:Small q.2.1) (h2:Small q.2.2):xp [Xq q,bp 4]=some (qr (qL q.1 q.2.1 q.2.2 4)):=
 V' (q.1,q.2.1,q.2.2,4) ⟨ae,h2,by simp only;omega⟩ (by simp only[List.map_cons,List.map_nil,gr,gq,gD,gK,gJ,ek,gu])
theorem LZ {q:vI} (ae:Small q.2.1) (h2:Small q.2.2):eV (qL q.1 q.2.1 q.2.2 4)<=4:=Xr ae h2 (by decide)
theorem Y1 (f:qO):xD [rX f]=some (d_ (p2 f)):=
 YY f trivial (by simp only[List.map_cons,List.map_nil,gr,gq,gD,gu])
theorem DF (f:cE):(d_ f).loose=d_ f:=by simp only[gr,gq,gD,gu]
theorem L0 (x:eZ):(gN x).loose=gN x:=by simp only[gr,gq,gD,gu,gK,gJ,ek]
theorem L1 (q:Rat):(qr q).loose=qr q:=by simp only[gr,gq,gD,gK,gJ,ek]
theorem L2 {f:cE} (aT:fS f) {w:Rat} (hw:eV w<=12) {d:Nat} (bw:d<5):xC [qr w,d_ f,bp d]=some (.cb [gN (dE f d w),bp 0]):=
 YQ (w,f,d) ⟨aT,hw,bw⟩ (by simp only[List.map_cons,List.map_nil,DF,L1,gu])
theorem L3 {f:cE} (aT:fS f) {x:eZ} (av:kt f x):xx [d_ f,gN x]=some (.bool true):=
 XF (f,x) ⟨aT,av⟩ (by simp only[List.map_cons,List.map_nil,DF,L0])
theorem L4 {f:cE} (aT:fS f) {x y:eZ} (av:kt f x) (bj:kt f y):xz [d_ f,gN x,gN y]=some (.int .i64 (fb (dR f x) (dR f y))):=
 Yd (f,x,y) ⟨aT,av,bj⟩ (by simp only[List.map_cons,List.map_nil,DF,L0])
theorem Y2 {a b:Rat} (bF:eV a<=100000) (au:eV b<=100000):xt [qr a,qr b]=some (.int .i64 (fb a b)):=
 WT (a,b) ⟨bF,au⟩ (by simp only[List.map_cons,List.map_nil,L1])
theorem Y3 {f:cE} (aT:f.hH) (d:Nat) (a b:Rat):(fb a b= -1/\fb (dR f (dE f d a)) (dR f (dE f d b))= -1)\/(fb a b= -1/\fb (dR f (dE f d a)) (dR f (dE f d b))=0)\/(fb a b=0/\fb (dR f (dE f d a)) (dR f (dE f d b))=0)\/(fb a b=1/\fb (dR f (dE f d a)) (dR f (dE f d b))=0)\/(fb a b=1/\fb (dR f (dE f d a)) (dR f (dE f d b))=1):=by
 have key:∀u v:Rat,(u<=v->fb u v= -1\/fb u v=0)/\(v<=u->fb u v=1\/fb u v=0):=fun u v=>by
  rcases vA u v with⟨ae,h2⟩|⟨ae,h2⟩|⟨ae,h2⟩<;>refine⟨fun h=>?_,fun h=>?_⟩<;>first|exact .inl h2|exact .inr h2|(exfalso;grind)
 rcases vA a b with⟨ae,h2⟩|⟨ae,h2⟩|⟨ae,h2⟩
 · have:=(key (dR f (dE f d a)) (dR f (dE f d b))).1 (KM aT d (Rat.le_of_lt ae))
   rcases this with h|h
   · exact .inl ⟨h2,h⟩
   · exact .inr (.inl ⟨h2,h⟩)
 · refine .inr (.inr (.inl ⟨h2,?_⟩))
   rw[ae]
   rcases vA (dR f (dE f d b)) (dR f (dE f d b)) with⟨aO,-⟩|⟨-,a2⟩|⟨aO,-⟩
   · exact absurd aO Rat.lt_irrefl
   · exact a2
   · exact absurd aO Rat.lt_irrefl
 · have:=(key (dR f (dE f d a)) (dR f (dE f d b))).2 (KM aT d (Rat.le_of_lt ae))
   rcases this with h|h
   · exact .inr (.inr (.inr (.inr ⟨h2,h⟩)))
   · exact .inr (.inr (.inr (.inl ⟨h2,h⟩)))
noncomputable def r0:FuncId->Option (List J->Option J):=da [(12,wP),(28,xp),(29,xD),(30,xC),(16,xx),(32,xt),(26,xz)]
theorem Y4:∀f T,r0 f=some T->bl Tryz.prog G f T:=dc (by simp only[List.forall_mem_cons];exact ⟨QJ,Wa,YZ,YR,XG,WU,Ye,fun _ h=>absurd h (by simp)⟩)
theorem Y5:r0 12=some wP:=rfl
theorem Y6:r0 28=some xp:=rfl
theorem Y7:r0 29=some xD:=rfl
theorem Y8:r0 30=some xC:=rfl
theorem Y9:r0 16=some xx:=rfl
theorem Y_:r0 32=some xt:=rfl
theorem Za:r0 26=some xz:=rfl
attribute [local simp] Y5 Y6 Y7 Y8 Y9 Y_ Za
noncomputable def DG:List J->Option J:=cl (fun z:vI × vI × qO × Nat=>((Small z.1.2.1/\Small z.1.2.2)/\Small z.2.1.2.1/\Small z.2.1.2.2)/\z.2.2.2<256) (fun z=>[LX z.1 z.2.1,rX z.2.2.1,.int .u8 (Z z.2.2.2)]) (fun _=> .bool true)
theorem Zb {q r:vI} {f:qO} {d:Nat} (h:((Small q.2.1/\Small q.2.2)/\Small r.2.1/\Small r.2.2)/\d<256) {args:List J} (he:args.map J.loose= [LX q r,rX f,.int .u8 (Z d)]):DG args=some (.bool true):=
 cI (fun _ _ _=>rfl) (q,r,f,d) h he
theorem me:bl Tryz.prog G 8 DG:=by
 refine cJ mixed Y4 sF fun z aV=>?_
 obtain⟨q,r,f,d⟩:=z
 obtain⟨⟨⟨ae,h2⟩,aO,a2⟩,bw⟩:=aV
 simp only at ae h2 aO a2 bw|-
 have kr:=head_eq
 have vJ:=LY ae h2
 have vK:=LY aO a2
 have cZ:=LZ ae h2
 have cm:=LZ aO a2
 have vL:=Y1 f
 have bq:=(YE f).ok
 have L5:=Nat.mod_lt d (show 0<5 by decide)
 generalize qL q.1 q.2.1 q.2.2 4=a at*
 generalize qL r.1 r.2.1 r.2.2 4=b at*
 generalize p2 f=g at*
 have t1:=L2 bq (w:=a) (by omega) L5
 have t2:=L2 bq (w:=b) (by omega) L5
 have y1:=KI bq.ok (d%5) a
 have ec:=KI bq.ok (d%5) b
 have t3:=L3 bq y1
 have t4:=L3 bq ec
 have t5:=Y2 (a:=a) (b:=b) (by omega) (by omega)
 have t6:=L4 bq y1 ec
 have t7:=L4 bq ec y1
 rw[Xw] at t7
 have I:=Y3 bq.ok (d%5) a b
 obtain⟨cn,eg,gQ⟩:=q
 obtain⟨ct,ej,o5⟩:=r
 clear y1 ec ae h2 aO a2 cZ cm bq
 generalize dE g (d%5) a=x at*
 generalize dE g (d%5) b=y at*
 generalize fb (dR g x) (dR g y)=m at*
 generalize fb a b=n at*
 have hP:=YF
 have kD:=YG
 have px:=YH
 have sq:=YI
 have vM:=YJ
 have vN:=YK
 have vO:=YL
 have nP:=YM
 have dH:=YN
 have bm:=YO
 have vP:=YP
 unfold i8
 rcases I with⟨rfl,rfl⟩|⟨rfl,rfl⟩|⟨rfl,rfl⟩|⟨rfl,rfl⟩|⟨rfl,rfl⟩
 all_goals
  refine al [0,1,2,3,4,6,7,8,9,10,11,13,15,16,53] fun F=>?_
  simp only[ak]
  intro f0 f1 f2 f3 f4 f6 f7 f8 f9 f10 f11 f13 f15 f16 f53
  simp[a8] at f0 f1 f2 f3 f4 f6 f7 f8 f9 f10 f11 f13 f15 f16 f53
  repeat' (first
   | refine ax ?_
   | ((fail_if_success (refine aQ ?_));(fail_if_success (refine aR ?_));refine aL ?_)
   | ((first|(refine az aM ?_;simp(disch:=omega) [vC,vD,kr,vJ,vK,vL,t1,t2,t3,t4,t5,t6,t7,hP,kD,px,sq,vM,vN,vO,nP,dH,bm,vP,f0,f1,f2,f3,f4,f6,f7,f8,f9,f10,f11,f13,f15,f16,f53];(try(refine⟨by first|decide|rfl,?_⟩)))|(refine aK ?_;simp(disch:=omega) [vC,vD,kr,vJ,vK,vL,t1,t2,t3,t4,t5,t6,t7,hP,kD,px,sq,vM,vN,vO,nP,dH,bm,vP,f0,f1,f2,f3,f4,f6,f7,f8,f9,f10,f11,f13,f15,f16,f53]));(try(refine al [0,1,2,3,4,6,7,8,9,10,11,13,15,16,53] ?_;intro F;simp only[ak];intro U ab aa af ad ag ar ao aA aB bA aZ bE bQ DH;simp(disch:=omega) [vC,vD,kr,vJ,vK,vL,t1,t2,t3,t4,t5,t6,t7,hP,kD,px,sq,vM,vN,vO,nP,dH,bm,vP,f0,f1,f2,f3,f4,f6,f7,f8,f9,f10,f11,f13,f15,f16,f53] at U ab aa af ad ag ar ao aA aB bA aZ bE bQ DH;clear f0 f1 f2 f3 f4 f6 f7 f8 f9 f10 f11 f13 f15 f16 f53;have f0:=U;have f1:=ab;have f2:=aa;have f3:=af;have f4:=ad;have f6:=ag;have f7:=ar;have f8:=ao;have f9:=aA;have f10:=aB;have f11:=bA;have f13:=aZ;have f15:=bE;have f16:=bQ;have f53:=DH;clear U ab aa af ad ag ar ao aA aB bA aZ bE bQ DH)))
   | (refine aJ _ (by simp(disch:=omega) [vC,vD,kr,vJ,vK,vL,t1,t2,t3,t4,t5,t6,t7,hP,kD,px,sq,vM,vN,vO,nP,dH,bm,vP,f0,f1,f2,f3,f4,f6,f7,f8,f9,f10,f11,f13,f15,f16,f53];rfl) (fun I=>?_) (fun I=>?_)<;>first|(exfalso;simp(disch:=omega) [vC,vD,kr,vJ,vK,vL,t1,t2,t3,t4,t5,t6,t7,hP,kD,px,sq,vM,vN,vO,nP,dH,bm,vP] at I;done)|(exfalso;simp at I;omega)|(simp at I))
   | ((first|refine aH ?_|refine aN ?_);simp(disch:=omega) [vC,vD,kr,vJ,vK,vL,t1,t2,t3,t4,t5,t6,t7,hP,kD,px,sq,vM,vN,vO,nP,dH,bm,vP,f0,f1,f2,f3,f4,f6,f7,f8,f9,f10,f11,f13,f15,f16,f53]))
end
end
end Go.Proofs.YtcikknajimdjoaaGreatDoor
