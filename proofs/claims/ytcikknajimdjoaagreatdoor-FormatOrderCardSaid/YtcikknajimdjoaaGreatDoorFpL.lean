/- What the claim needs of the walks, put together by a program (shake.py). -/
import Derived.Test.YtcikknajimdjoaaGreatDoorFpK
set_option maxRecDepth 100000
set_option linter.unusedSimpArgs false
set_option linter.unusedVariables false
set_option linter.unusedSectionVars false
namespace Go.Proofs.YtcikknajimdjoaaGreatDoor
section
set_option maxHeartbeats 8000000
open Go Go.Eng Go.RowKit
def Ds (f:cE) (w:Rat) (c:Int) (st:bg):Prop:=(st.F 2= .ptr 0 0 0/\st.F 3= .ptr 1 0 0/\st.F 5= .int .i64 c/\∃q,st.F 6= .ptr q 0 0/\st.h.cells q=some [a7 ((f.β^f.p:Nat):Int)]/\q<st.h.next)/\st.h.cells 0=some [qr w]/\st.h.cells 1=some [d_ f]/\1<st.h.next/\∀j,st.h.shut j=false
def Lg (f:cE) (w:Rat) (k:Nat) (st:bg):Prop:=∃c,(c:Int)=f.bd+k/\c<=420/\Ds f w c st/\∃se xA,st.F 7= .ptr se 0 0/\st.F 8= .ptr xA 0 0/\st.h.cells se=some [a7 (cW f.β w c:Nat)]/\st.h.cells xA=some [a7 (b9 f.β w c:Nat)]/\se<st.h.next/\xA<st.h.next
def Lh (f:cE) (w:Rat) (E:Int) (st:bg):Prop:=∃c,f.bd<=c/\c<=E/\Ds f w c st
def z3 (f:cE) (w:Rat) (E:Int) (k:Nat) (st:bg):Prop:=∃c,(c:Int)=E - k/\f.bd<=c/\Ds f w c st
theorem Li (n:Nat):dv n<=32*(ai n).length:=by
 rw[ot,<-ll]
 exact c8.1 (Nat.le_refl _)
end
section
set_option maxHeartbeats 8000000
open Go Go.Eng Go.RowKit
attribute [local simp] bH.m bH.o bH.n bH.g hy fh dG dr dJ evalOp.eq_1 evalOp.eq_2 evalOp.eq_3 evalOp.eq_4 evalOp.eq_5 evalOp.eq_6 evalOp.eq_7 evalOp.eq_8 evalOp.eq_9 evalOp.eq_10 evalOp.eq_11 evalOp.eq_12 evalOp.eq_13 evalOp.eq_14 evalOp.eq_15 evalOp.eq_16 evalOp.eq_17 evalOp.eq_18 evalOp.eq_19 evalOp.eq_20 evalOp.eq_21 evalOp.eq_22 evalOp.eq_23 evalOp.eq_24 evalOp.eq_25 evalOp.eq_27 evalOp.eq_28 evalOp.eq_29 kl bn.cu dq aG aF.new a8 J.cells J.dp J.e7 J.ft il iq im ir iv iu jK jL jM gY gZ cut partOf bound elems jO jP jQ jR jS jT jU jV jW jX jY jZ h1 j0 j1 j2 j3 j4 j5 j6 j7 j8 j9 j_ j' ka kb kc kd ke kf kg kh ki kj kk ff e8 e1 gi iw hA aF.close aF.set h3 km kn ko jN hB gD gq gJ gr hX gu gK hY hZ h0 gf gg gh gd ix bI hU iy hV iz iA fY iB fw iC iD iE gT jJ iF iG iH iI iJ iK iL iM iN iO iP iQ iR iS iT iU iV iW iX hf iY iZ i_ i' ja jb jc jd je jf jg jh ji jj jk
attribute [local simp high] jG jH jI jl jm jn jo jq jr js jt ju jv jw jx jy jz jA jB jC jD jE jF
attribute [local simp] aS List.getElem?_cons_zero List.getElem?_cons_succ fa eh gl Nat.mod_eq_of_lt kH kI kJ kK gL kL kM kN
section
attribute [local irreducible] cQ
attribute [local simp] ek eL du
noncomputable def tA:FuncId->Option (List J->Option J):=da [(121,yP),(46,ng),(50,rW),(75,tx),(52,nO),(78,pd)]
theorem Yf:∀f T,tA f=some T->bl Tryz.prog G f T:=dc (by simp only[List.forall_mem_cons];exact ⟨QM,vz,Dl,Lb,w9,yZ,fun _ h=>absurd h (by simp)⟩)
theorem Yg:tA 121=some yP:=rfl
theorem Yh:tA 46=some ng:=rfl
theorem Yi:tA 50=some rW:=rfl
theorem Yj:tA 75=some tx:=rfl
theorem Yk:tA 52=some nO:=rfl
theorem Yl:tA 78=some pd:=rfl
attribute [local simp] Yg Yh Yi Yj Yk Yl
noncomputable def z4:List J->Option J:=cl (fun z:Rat × cE=>fS z.2/\eV z.1<=12) (fun z=>[qr z.1,d_ z.2]) (fun z=> .int .i64 (lW z.2 (dZ z.1)))
theorem Ym (z:Rat × cE) (h:fS z.2/\eV z.1<=12) {args:List J} (he:args.map J.loose= [qr z.1,d_ z.2]):z4 args=some (.int .i64 (lW z.2 (dZ z.1))):=cI (fun z w h=>by first|(simp only[ly,fR,fQ,List.cons.injEq,J.int.injEq,J.bool.injEq,J.sl.injEq,bT,bU,bY,bZ,bX,bG,bL,bV,bI,true_and,and_true] at h;simp[h];done)|(simp only[J.agg.injEq,ly,fR,fQ,List.cons.injEq,J.int.injEq,J.bool.injEq,J.sl.injEq,bT,bU,bY,bZ,bX,bG,bL,bV,bI,true_and,and_true] at h;simp[h])) z h he
theorem Yn:bl Tryz.prog G 74 z4:=by
 refine cJ mixed Yf Gs fun z aV=>?_
 obtain⟨w,f⟩:=z
 obtain⟨aT,hw⟩:=aV
 simp only at aT hw|-
 obtain⟨ct,ej⟩:=K2 aT hw
 have dL:=rU aT.ok (dZ w)
 generalize lW f (dZ w)=E at*
 have qI:(ai w.num.natAbs).length<=12/\(ai w.den).length<=12:=by simp only[eV,bS] at hw;omega
 have b1:=Ik (a:=w.num.natAbs) (e:=false) (by omega)
 have cN:=Ik (a:=w.den) (e:=false) (by omega)
 have eW:=Li w.num.natAbs
 have kQ:=Li w.den
 have tB:=aT.b
 have hz:=aT.ok.b
 have dO:=aT.dO
 have e2:=aT.e2
 have Yo:=aT.ck
 have aay:=aT.dD
 have aaz:=mn (b:=f.β) (n:=f.p) (by omega)
 have eM:=rV (f,f.p) ⟨tB,by simp only;omega⟩ (args:=[d_ f,bp f.p]) (by simp)
 have eN:=tv (false,f.β^f.p) (by simp only;omega) (args:=[.bool false,aw (f.β^f.p)]) (by simp)
 rw[show db false (f.β^f.p)=((f.β^f.p:Nat):Int) from rfl] at eN
 simp only at eM
 obtain⟨d,bw,d1,d2⟩:∃d,d=Z (dv w.num.natAbs) - Z (dv w.den)/\ -384<=d/\d<=384:=⟨_,rfl,by simp only[Z];omega,by simp only[Z];omega⟩
 have bK:IntKind.i64.wrap (Z (dv w.num.natAbs) - Z (dv w.den))=d:=by rw[<-bw];exact wrap_i64 (by omega) (by omega)
 clear bw eW kQ qI
 generalize dv w.num.natAbs=uT at*
 generalize dv w.den=CZ at*
 have aaA:((f.β^f.p:Nat):Int)=Z (f.β^f.p):=rfl
 have kT:∀c:Int,f.bd<=c->c<=420->tx [qr w,d_ f,.int .i64 c]=some (.cb [a7 (cW f.β w c:Nat),a7 (b9 f.β w c:Nat)]):=fun c ae h2=>
  La (w,f,c) ⟨tB,by simp only;omega,by simp only;omega,by simp only;omega⟩ (by simp)
 have gM:∀c:Int,f.bd<=c->c<=420->nO [a7 (b9 f.β w c:Nat),a7 ((f.β^f.p:Nat):Int)]=some (a7 ((b9 f.β w c*f.β^f.p:Nat):Int))/\pd [a7 (cW f.β w c:Nat),a7 ((b9 f.β w c*f.β^f.p:Nat):Int)]=some (.int .i64 (cT (cW f.β w c) (b9 f.β w c*f.β^f.p)))/\(cT (cW f.β w c) (b9 f.β w c*f.β^f.p)<Z 0)=(dZ w<cj f.β (c+f.p)):=fun c ae h2=>by
  have a6:=mn (b:=f.β) (n:=c.natAbs) (by omega)
  have aC:(ai (cW f.β w c)).length<=80/\(ai (b9 f.β w c)).length<=80:=by
   have qI:(ai w.num.natAbs).length<=12/\(ai w.den).length<=12:=by simp only[eV,bS] at hw;omega
   unfold cW b9
   by_cases aS:0<=c
   · rw[if_pos aS,if_pos aS,show c.toNat=c.natAbs by omega]
     have:=hC w.den (f.β^c.natAbs)
     omega
   · rw[if_neg aS,if_neg aS,show (-c).toNat=c.natAbs by omega]
     have:=hC w.num.natAbs (f.β^c.natAbs)
     omega
  have hm:=hC (b9 f.β w c) (f.β^f.p)
  have t1:=s9 ((b9 f.β w c:Int),((f.β^f.p:Nat):Int)) ⟨by simp only[kS];omega,by simp only[kS];omega,by simp only[kS];omega⟩ (args:=[a7 (b9 f.β w c:Int),a7 ((f.β^f.p:Nat):Int)]) (by simp)
  have t2:=Cd ((cW f.β w c:Int),((b9 f.β w c*f.β^f.p:Nat):Int)) ⟨by simp only[kS];omega,by simp only[kS];omega⟩ (args:=[a7 (cW f.β w c:Int),a7 ((b9 f.β w c*f.β^f.p:Nat):Int)]) (by simp)
  simp only[<-Int.natCast_mul] at t1
  have e:f' (cW f.β w c:Int) ((b9 f.β w c*f.β^f.p:Nat):Int)=cT (cW f.β w c) (b9 f.β w c*f.β^f.p):=by
   simp only[f',cT,Int.ofNat_lt]
  simp only[e] at t2
  refine⟨t1,t2,?_⟩
  rw[<-Wx hz]
  by_cases h:cW f.β w c<b9 f.β w c*f.β^f.p
  · rw[X6 h];exact propext ⟨fun _=>h,fun _=>by decide⟩
  · rw[X7 (Nat.not_lt.1 h)];exact propext ⟨fun h=>h.elim,fun h2=>absurd h2 h⟩
 obtain⟨x,ze,pV,av⟩:∃x:Int,-450<=x/\x<=384/\((f.β=2/\IntKind.i64.wrap (d - Z (f.p+2))=x)\/(f.β=10/\IntKind.i64.wrap (IntKind.i64.wrap ((IntKind.i64.wrap (d*Z 30)).tdiv (Z 100)) - Z (f.p+2))=x)):=by
  rcases tB with au|au
  · exact ⟨d -(f.p+2),by omega,by omega,.inl ⟨au,wrap_i64 (by simp only[Z];omega) (by simp only[Z];omega)⟩⟩
  · have a1:IntKind.i64.wrap (d*Z 30)=d*30:=wrap_i64 (by simp only[Z];omega) (by simp only[Z];omega)
    have cP:((d*30).tdiv 100).natAbs<=384:=by
     rw[Int.natAbs_tdiv]
     have:(d*30).natAbs<=11520:=by omega
     have aO:(d*30).natAbs/100<=11520/100:=Nat.div_le_div_right this
     show (d*30).natAbs/100<=384
     omega
    generalize bj:(d*30).tdiv 100=y at*
    refine⟨y -(f.p+2),by omega,by omega,.inr ⟨au,?_⟩⟩
    have fV:IntKind.i64.wrap ((IntKind.i64.wrap (d*Z 30)).tdiv (Z 100))=y:=by
     rw[a1,<-bj];exact wrap_i64 (by rw[show Z 100=100 from rfl,bj];omega) (by rw[show Z 100=100 from rfl,bj];omega)
    rw[fV]
    exact wrap_i64 (by simp only[Z];omega) (by simp only[Z];omega)
 obtain⟨dg,hm,bz,b4⟩:∃dg,fg (fun a b=>if a<b then b else a) [J.int .i64 x,J.int .i64 f.bd]=some (.int .i64 dg)/\f.bd<=dg/\dg<=420:=
  ⟨if x<f.bd then f.bd else x,by simp only[fg,if_true],by split<;>omega,by split<;>omega⟩
 unfold i74
 rcases av with⟨au,cr⟩|⟨au,cr⟩
 · have aj:(f.β == 10)=false:=by rw[au];rfl
   clear au ze pV d1 d2
   by_cases te:f.bd<dg
   · have aq:(f.bd<dg)=True:=eq_true te
     have s1:=kT dg bz b4
     refine al [0,1,2,3,4,5,6,7,8,9,10,21,42,61,71,72,85] fun F=>?_
     simp only[ak]
     intro f0 f1 f2 f3 f4 f5 f6 f7 f8 f9 f10 f21 f42 f61 f71 f72 f85
     simp[a8] at f0 f1 f2 f3 f4 f5 f6 f7 f8 f9 f10 f21 f42 f61 f71 f72 f85
     repeat' (first
      | refine ax ?_
      | ((fail_if_success (refine aQ ?_));(fail_if_success (refine aR ?_));refine aL ?_)
      | ((first|(refine az aM ?_;simp(disch:=omega) [b1,cN,bK,cr,eM,eN,aj,hm,aq,s1,f0,f1,f2,f3,f4,f5,f6,f7,f8,f9,f10,f21,f42,f61,f71,f72,f85];(try(refine⟨by first|decide|rfl,?_⟩)))|(refine aK ?_;simp(disch:=omega) [b1,cN,bK,cr,eM,eN,aj,hm,aq,s1,f0,f1,f2,f3,f4,f5,f6,f7,f8,f9,f10,f21,f42,f61,f71,f72,f85]));(try(refine al [0,1,2,3,4,5,6,7,8,9,10,21,42,61,71,72,85] ?_;intro F;simp only[ak];intro U ab aa af ad ah ag ar ao aA aB dx g5 cM eH eI dB;simp(disch:=omega) [b1,cN,bK,cr,eM,eN,aj,hm,aq,s1,f0,f1,f2,f3,f4,f5,f6,f7,f8,f9,f10,f21,f42,f61,f71,f72,f85] at U ab aa af ad ah ag ar ao aA aB dx g5 cM eH eI dB;clear f0 f1 f2 f3 f4 f5 f6 f7 f8 f9 f10 f21 f42 f61 f71 f72 f85;have f0:=U;have f1:=ab;have f2:=aa;have f3:=af;have f4:=ad;have f5:=ah;have f6:=ag;have f7:=ar;have f8:=ao;have f9:=aA;have f10:=aB;have f21:=dx;have f42:=g5;have f61:=cM;have f71:=eH;have f72:=eI;have f85:=dB;clear U ab aa af ad ah ag ar ao aA aB dx g5 cM eH eI dB)))
      | (refine aJ _ (by simp(disch:=omega) [b1,cN,bK,cr,eM,eN,aj,hm,aq,s1,f0,f1,f2,f3,f4,f5,f6,f7,f8,f9,f10,f21,f42,f61,f71,f72,f85];rfl) (fun I=>?_) (fun I=>?_)<;>first|(exfalso;simp(disch:=omega) [b1,cN,bK,cr,eM,eN,aj,hm,aq,s1] at I;done)|(exfalso;simp at I;omega)|(simp at I))
      | ((first|refine aH ?_|refine aN ?_);simp(disch:=omega) [b1,cN,bK,cr,eM,eN,aj,hm,aq,s1,f0,f1,f2,f3,f4,f5,f6,f7,f8,f9,f10,f21,f42,f61,f71,f72,f85]))
     refine na (fun k st=>Lg f w k st) (fun st=>Lh f w E st) (fun _=>False) (dg - f.bd).toNat ?_ ?_ ?_ (fun _ _ h=>h.elim)
     · exact ⟨dg,by omega,b4,⟨⟨f2,f3,f5,_,f6,by simp[aG],by simp⟩,by simp[aG],by simp[aG],by simp,fun _=>rfl⟩,_,_,f7,f8,by simp[aG],by simp[aG],by simp,by simp⟩
     · clear f0 f1 f2 f3 f4 f5 f6 f7 f8 f9 f10 f21 f42 f61 f71 f72 f85 s1 b1 cN bK cr eM eN hm aj aq
       rintro k st aI ⟨c,oe,pe,⟨⟨br,eS,ev,q,ht,cw,cO⟩,cx,cy,cd,bD⟩,se,xA,h4,kp,fp,fq,fr,fs⟩
       have f2:=br
       have f3:=eS
       have f5:=ev
       have f6:=ht
       have f7:=h4
       have f8:=kp
       clear br eS ev ht h4 kp
       have ck:f.bd<=c:=by omega
       obtain⟨s2,b3,ed⟩:=gM c ck pe
       refine al [2,3,5,6,7,8,61,71,72] ?_
       intro F
       simp only[ak]
       intro aa af ah ag ar ao cM eH eI
       try simp[aS,f2,f3,f5,f6,f7,f8] at aa af ah ag ar ao cM eH eI
       clear f2 f3 f5 f6 f7 f8
       have f2:=aa
       have f3:=af
       have f5:=ah
       have f6:=ag
       have f7:=ar
       have f8:=ao
       have f61:=cM
       have f71:=eH
       have f72:=eI
       clear aa af ah ag ar ao cM eH eI
       by_cases nq:f.bd<c
       · have aW:(f.bd<c)=True:=eq_true nq
         by_cases dI:dZ w<cj f.β (c+f.p)
         · have ca:(cT (cW f.β w c) (b9 f.β w c*f.β^f.p)<Z 0)=True:=by rw[ed];exact eq_true dI
           have wd:IntKind.i64.wrap (c - Z 1)=c - Z 1:=wrap_i64 (by simp only[Z];omega) (by simp only[Z];omega)
           have s1:=kT (c - Z 1) (by simp only[Z];omega) (by simp only[Z];omega)
           clear ed dI gM kT dL
           generalize Dt:((cW f.β w (c - Z 1):Nat):Int)=Yp at*
           generalize Du:((b9 f.β w (c - Z 1):Nat):Int)=Yq at*
           generalize cT (cW f.β w c) (b9 f.β w c*f.β^f.p)=dV at*
           generalize ((b9 f.β w c*f.β^f.p:Nat):Int)=pq at*
           generalize ((b9 f.β w c:Nat):Int)=oL at*
           generalize ((cW f.β w c:Nat):Int)=pr at*
           generalize lO:((f.β^f.p:Nat):Int)=n' at*
           repeat' (first
            | refine ax ?_
            | ((fail_if_success (refine aQ ?_));(fail_if_success (refine aR ?_));refine aL ?_)
            | ((first|(refine az aM ?_;simp(disch:=omega) [cx,cy,cw,fp,fq,cd,cO,fr,fs,s1,s2,b3,ca,bD,wd,aW,f2,f3,f5,f6,f7,f8,f61,f71,f72];(try(refine⟨by first|decide|rfl,?_⟩)))|(refine aK ?_;simp(disch:=omega) [cx,cy,cw,fp,fq,cd,cO,fr,fs,s1,s2,b3,ca,bD,wd,aW,f2,f3,f5,f6,f7,f8,f61,f71,f72]));(try(refine al [2,3,5,6,7,8,61,71,72] ?_;intro F;simp only[ak];intro aa af ah ag ar ao cM eH eI;simp(disch:=omega) [cx,cy,cw,fp,fq,cd,cO,fr,fs,s1,s2,b3,ca,bD,wd,aW,f2,f3,f5,f6,f7,f8,f61,f71,f72] at aa af ah ag ar ao cM eH eI;clear f2 f3 f5 f6 f7 f8 f61 f71 f72;have f2:=aa;have f3:=af;have f5:=ah;have f6:=ag;have f7:=ar;have f8:=ao;have f61:=cM;have f71:=eH;have f72:=eI;clear aa af ah ag ar ao cM eH eI)))
            | (refine aJ _ (by simp(disch:=omega) [cx,cy,cw,fp,fq,cd,cO,fr,fs,s1,s2,b3,ca,bD,wd,aW,f2,f3,f5,f6,f7,f8,f61,f71,f72];rfl) (fun I=>?_) (fun I=>?_)<;>first|(exfalso;simp(disch:=omega) [cx,cy,cw,fp,fq,cd,cO,fr,fs,s1,s2,b3,ca,bD,wd,aW] at I;done)|(exfalso;simp at I;omega)|(simp at I))
            | ((first|refine aH ?_|refine aN ?_);simp(disch:=omega) [cx,cy,cw,fp,fq,cd,cO,fr,fs,s1,s2,b3,ca,bD,wd,aW,f2,f3,f5,f6,f7,f8,f61,f71,f72]))
           have b7:Z 1=1:=rfl
           clear wd ca s1 s2 b3 aI
           refine⟨k - 1,by omega,c - Z 1,by omega,by omega,⟨⟨f2,f3,f5,q,f6,?_,by simp only;omega⟩,?_,?_,by simp only;omega,fun _=>rfl⟩,_,_,f7,f8,?_,?_,by simp only;omega,by simp only;omega⟩
           · rw[lO];simp only[aG];repeat rw[if_neg (by omega)]
             exact cw
           · simp only[aG];repeat rw[if_neg (by omega)]
             exact cx
           · simp only[aG];repeat rw[if_neg (by omega)]
             exact cy
           · rw[Dt];simp only[aG];rw[if_neg (by omega),if_pos trivial]
           · rw[Du];simp only[aG];rw[if_pos trivial]
         · have ca:(cT (cW f.β w c) (b9 f.β w c*f.β^f.p)<Z 0)=False:=by rw[ed];exact eq_false dI
           have lh:=dL.go hz dI
           clear ed dI gM kT dL
           generalize cT (cW f.β w c) (b9 f.β w c*f.β^f.p)=dV at*
           generalize ((b9 f.β w c*f.β^f.p:Nat):Int)=pq at*
           generalize ((b9 f.β w c:Nat):Int)=oL at*
           generalize ((cW f.β w c:Nat):Int)=pr at*
           generalize lO:((f.β^f.p:Nat):Int)=n' at*
           repeat' (first
            | refine ax ?_
            | ((fail_if_success (refine aQ ?_));(fail_if_success (refine aR ?_));refine aL ?_)
            | ((first|(refine az aM ?_;simp(disch:=omega) [cx,cy,cw,fp,fq,cd,cO,fr,fs,s2,b3,ca,bD,aW,f2,f3,f5,f6,f7,f8,f61,f71,f72];(try(refine⟨by first|decide|rfl,?_⟩)))|(refine aK ?_;simp(disch:=omega) [cx,cy,cw,fp,fq,cd,cO,fr,fs,s2,b3,ca,bD,aW,f2,f3,f5,f6,f7,f8,f61,f71,f72]));(try(refine al [2,3,5,6,7,8,61,71,72] ?_;intro F;simp only[ak];intro aa af ah ag ar ao cM eH eI;simp(disch:=omega) [cx,cy,cw,fp,fq,cd,cO,fr,fs,s2,b3,ca,bD,aW,f2,f3,f5,f6,f7,f8,f61,f71,f72] at aa af ah ag ar ao cM eH eI;clear f2 f3 f5 f6 f7 f8 f61 f71 f72;have f2:=aa;have f3:=af;have f5:=ah;have f6:=ag;have f7:=ar;have f8:=ao;have f61:=cM;have f71:=eH;have f72:=eI;clear aa af ah ag ar ao cM eH eI)))
            | (refine aJ _ (by simp(disch:=omega) [cx,cy,cw,fp,fq,cd,cO,fr,fs,s2,b3,ca,bD,aW,f2,f3,f5,f6,f7,f8,f61,f71,f72];rfl) (fun I=>?_) (fun I=>?_)<;>first|(exfalso;simp(disch:=omega) [cx,cy,cw,fp,fq,cd,cO,fr,fs,s2,b3,ca,bD,aW] at I;done)|(exfalso;simp at I;omega)|(simp at I))
            | ((first|refine aH ?_|refine aN ?_);simp(disch:=omega) [cx,cy,cw,fp,fq,cd,cO,fr,fs,s2,b3,ca,bD,aW,f2,f3,f5,f6,f7,f8,f61,f71,f72]))
           exact ⟨c,ck,by omega,⟨f2,f3,f5,q,f6,by rw[lO];exact cw,by simp only;omega⟩,cx,cy,by simp only;omega,fun j=>by simp only[bD]⟩
       · have aW:(f.bd<c)=False:=eq_false nq
         clear ed gM kT dL s2 b3
         repeat' (first
          | refine ax ?_
          | ((fail_if_success (refine aQ ?_));(fail_if_success (refine aR ?_));refine aL ?_)
          | ((first|(refine az aM ?_;simp(disch:=omega) [cx,cy,cw,fp,fq,cd,cO,fr,fs,bD,aW,f2,f3,f5,f6,f7,f8,f61,f71,f72];(try(refine⟨by first|decide|rfl,?_⟩)))|(refine aK ?_;simp(disch:=omega) [cx,cy,cw,fp,fq,cd,cO,fr,fs,bD,aW,f2,f3,f5,f6,f7,f8,f61,f71,f72]));(try(refine al [2,3,5,6,7,8,61,71,72] ?_;intro F;simp only[ak];intro aa af ah ag ar ao cM eH eI;simp(disch:=omega) [cx,cy,cw,fp,fq,cd,cO,fr,fs,bD,aW,f2,f3,f5,f6,f7,f8,f61,f71,f72] at aa af ah ag ar ao cM eH eI;clear f2 f3 f5 f6 f7 f8 f61 f71 f72;have f2:=aa;have f3:=af;have f5:=ah;have f6:=ag;have f7:=ar;have f8:=ao;have f61:=cM;have f71:=eH;have f72:=eI;clear aa af ah ag ar ao cM eH eI)))
          | (refine aJ _ (by simp(disch:=omega) [cx,cy,cw,fp,fq,cd,cO,fr,fs,bD,aW,f2,f3,f5,f6,f7,f8,f61,f71,f72];rfl) (fun I=>?_) (fun I=>?_)<;>first|(exfalso;simp(disch:=omega) [cx,cy,cw,fp,fq,cd,cO,fr,fs,bD,aW] at I;done)|(exfalso;simp at I;omega)|(simp at I))
          | ((first|refine aH ?_|refine aN ?_);simp(disch:=omega) [cx,cy,cw,fp,fq,cd,cO,fr,fs,bD,aW,f2,f3,f5,f6,f7,f8,f61,f71,f72]))
         exact ⟨c,ck,by omega,⟨f2,f3,f5,q,f6,cw,by simp only;omega⟩,cx,cy,by simp only;omega,fun j=>by simp only[bD]⟩
     · clear f0 f1 f2 f3 f4 f5 f6 f7 f8 f9 f10 f21 f42 f61 f71 f72 f85 s1 b1 cN bK cr eM eN hm aj aq
       rintro st aI ⟨c,ck,dD,⟨br,eS,ev,q,ht,cw,cO⟩,cx,cy,cd,bD⟩
       refine na (fun k st=>z3 f w E k st) (fun _=>False) (fun st=>st.F 4= .int .i64 E) (E - c).toNat ⟨c,by omega,ck,⟨br,eS,ev,q,ht,cw,cO⟩,cx,cy,cd,bD⟩ ?_ (fun _ _ h=>h.elim) ?_
       · rintro k st aI ⟨c,oe,ck,⟨br,eS,ev,q,ht,cw,cO⟩,cx,cy,cd,bD⟩
         have dD:c<=E:=by omega
         have f2:=br
         have f3:=eS
         have f5:=ev
         have f6:=ht
         clear br eS ev ht
         obtain⟨s2,b3,ed⟩:=gM c ck (by omega)
         have s1:=kT c ck (by omega)
         refine al [2,3,4,5,6,9,10,85] ?_
         intro F
         simp only[ak]
         intro aa af ad ah ag aA aB dB
         try simp[aS,f2,f3,f5,f6] at aa af ad ah ag aA aB dB
         clear f2 f3 f5 f6
         have f2:=aa
         have f3:=af
         have f4:=ad
         have f5:=ah
         have f6:=ag
         have f9:=aA
         have f10:=aB
         have f85:=dB
         clear aa af ad ah ag aA aB dB
         by_cases dI:dZ w<cj f.β (c+f.p)
         · obtain rfl:=dL.stop hz dD ck dI
           have ca:(cT (cW f.β w c) (b9 f.β w c*f.β^f.p)<Z 0)=True:=by rw[ed];exact eq_true dI
           clear ed dI gM kT oe dL
           generalize cT (cW f.β w c) (b9 f.β w c*f.β^f.p)=dV at*
           generalize ((b9 f.β w c*f.β^f.p:Nat):Int)=pq at*
           generalize ((b9 f.β w c:Nat):Int)=oL at*
           generalize ((cW f.β w c:Nat):Int)=pr at*
           generalize lO:((f.β^f.p:Nat):Int)=n' at*
           have cn:q≠st.h.next+7/\q≠st.h.next+8:=⟨by omega,by omega⟩
           repeat' (first
            | refine ax ?_
            | ((fail_if_success (refine aQ ?_));(fail_if_success (refine aR ?_));refine aL ?_)
            | ((first|(refine az aM ?_;simp(disch:=omega) [cx,cy,cw,cd,cO,s1,s2,b3,ca,bD,cn,f2,f3,f4,f5,f6,f9,f10,f85];(try(refine⟨by first|decide|rfl,?_⟩)))|(refine aK ?_;simp(disch:=omega) [cx,cy,cw,cd,cO,s1,s2,b3,ca,bD,cn,f2,f3,f4,f5,f6,f9,f10,f85]));(try(refine al [2,3,4,5,6,9,10,85] ?_;intro F;simp only[ak];intro aa af ad ah ag aA aB dB;simp(disch:=omega) [cx,cy,cw,cd,cO,s1,s2,b3,ca,bD,cn,f2,f3,f4,f5,f6,f9,f10,f85] at aa af ad ah ag aA aB dB;clear f2 f3 f4 f5 f6 f9 f10 f85;have f2:=aa;have f3:=af;have f4:=ad;have f5:=ah;have f6:=ag;have f9:=aA;have f10:=aB;have f85:=dB;clear aa af ad ah ag aA aB dB)))
            | (refine aJ _ (by simp(disch:=omega) [cx,cy,cw,cd,cO,s1,s2,b3,ca,bD,cn,f2,f3,f4,f5,f6,f9,f10,f85];rfl) (fun I=>?_) (fun I=>?_)<;>first|(exfalso;simp(disch:=omega) [cx,cy,cw,cd,cO,s1,s2,b3,ca,bD,cn] at I;done)|(exfalso;simp at I;omega)|(simp at I))
            | ((first|refine aH ?_|refine aN ?_);simp(disch:=omega) [cx,cy,cw,cd,cO,s1,s2,b3,ca,bD,cn,f2,f3,f4,f5,f6,f9,f10,f85]))
         · have lh:=dL.go hz dI
           have ca:(cT (cW f.β w c) (b9 f.β w c*f.β^f.p)<Z 0)=False:=by rw[ed];exact eq_false dI
           have eT:IntKind.i64.wrap (c+Z 1)=c+Z 1:=wrap_i64 (by simp only[Z];omega) (by simp only[Z];omega)
           clear ed dI gM kT dL
           generalize cT (cW f.β w c) (b9 f.β w c*f.β^f.p)=dV at*
           generalize ((b9 f.β w c*f.β^f.p:Nat):Int)=pq at*
           generalize ((b9 f.β w c:Nat):Int)=oL at*
           generalize ((cW f.β w c:Nat):Int)=pr at*
           generalize lO:((f.β^f.p:Nat):Int)=n' at*
           have cn:q≠st.h.next+7/\q≠st.h.next+8:=⟨by omega,by omega⟩
           repeat' (first
            | refine ax ?_
            | ((fail_if_success (refine aQ ?_));(fail_if_success (refine aR ?_));refine aL ?_)
            | ((first|(refine az aM ?_;simp(disch:=omega) [cx,cy,cw,cd,cO,s1,s2,b3,ca,bD,eT,cn,f2,f3,f4,f5,f6,f9,f10,f85];(try(refine⟨by first|decide|rfl,?_⟩)))|(refine aK ?_;simp(disch:=omega) [cx,cy,cw,cd,cO,s1,s2,b3,ca,bD,eT,cn,f2,f3,f4,f5,f6,f9,f10,f85]));(try(refine al [2,3,4,5,6,9,10,85] ?_;intro F;simp only[ak];intro aa af ad ah ag aA aB dB;simp(disch:=omega) [cx,cy,cw,cd,cO,s1,s2,b3,ca,bD,eT,cn,f2,f3,f4,f5,f6,f9,f10,f85] at aa af ad ah ag aA aB dB;clear f2 f3 f4 f5 f6 f9 f10 f85;have f2:=aa;have f3:=af;have f4:=ad;have f5:=ah;have f6:=ag;have f9:=aA;have f10:=aB;have f85:=dB;clear aa af ad ah ag aA aB dB)))
            | (refine aJ _ (by simp(disch:=omega) [cx,cy,cw,cd,cO,s1,s2,b3,ca,bD,eT,cn,f2,f3,f4,f5,f6,f9,f10,f85];rfl) (fun I=>?_) (fun I=>?_)<;>first|(exfalso;simp(disch:=omega) [cx,cy,cw,cd,cO,s1,s2,b3,ca,bD,eT,cn] at I;done)|(exfalso;simp at I;omega)|(simp at I))
            | ((first|refine aH ?_|refine aN ?_);simp(disch:=omega) [cx,cy,cw,cd,cO,s1,s2,b3,ca,bD,eT,cn,f2,f3,f4,f5,f6,f9,f10,f85]))
           have b7:Z 1=1:=rfl
           clear eT ca s1 s2 b3 aI
           refine⟨k - 1,by omega,c+Z 1,by omega,by omega,⟨f2,f3,rfl,q,f6,?_,by simp only;omega⟩,?_,?_,by simp only;omega,fun _=>rfl⟩
           · rw[lO];simp only[aG];repeat rw[if_neg (by omega)]
             exact cw
           · simp only[aG];repeat rw[if_neg (by omega)]
             exact cx
           · simp only[aG];repeat rw[if_neg (by omega)]
             exact cy
       · rintro st aI a2
         simp[a2]
   · have aq:(f.bd<dg)=False:=eq_false te
     refine al [0,1,2,3,4,5,6,7,8,9,10,21,42,61,71,72,85] fun F=>?_
     simp only[ak]
     intro f0 f1 f2 f3 f4 f5 f6 f7 f8 f9 f10 f21 f42 f61 f71 f72 f85
     simp[a8] at f0 f1 f2 f3 f4 f5 f6 f7 f8 f9 f10 f21 f42 f61 f71 f72 f85
     repeat' (first
      | refine ax ?_
      | ((fail_if_success (refine aQ ?_));(fail_if_success (refine aR ?_));refine aL ?_)
      | ((first|(refine az aM ?_;simp(disch:=omega) [b1,cN,bK,cr,eM,eN,aj,hm,aq,f0,f1,f2,f3,f4,f5,f6,f7,f8,f9,f10,f21,f42,f61,f71,f72,f85];(try(refine⟨by first|decide|rfl,?_⟩)))|(refine aK ?_;simp(disch:=omega) [b1,cN,bK,cr,eM,eN,aj,hm,aq,f0,f1,f2,f3,f4,f5,f6,f7,f8,f9,f10,f21,f42,f61,f71,f72,f85]));(try(refine al [0,1,2,3,4,5,6,7,8,9,10,21,42,61,71,72,85] ?_;intro F;simp only[ak];intro U ab aa af ad ah ag ar ao aA aB dx g5 cM eH eI dB;simp(disch:=omega) [b1,cN,bK,cr,eM,eN,aj,hm,aq,f0,f1,f2,f3,f4,f5,f6,f7,f8,f9,f10,f21,f42,f61,f71,f72,f85] at U ab aa af ad ah ag ar ao aA aB dx g5 cM eH eI dB;clear f0 f1 f2 f3 f4 f5 f6 f7 f8 f9 f10 f21 f42 f61 f71 f72 f85;have f0:=U;have f1:=ab;have f2:=aa;have f3:=af;have f4:=ad;have f5:=ah;have f6:=ag;have f7:=ar;have f8:=ao;have f9:=aA;have f10:=aB;have f21:=dx;have f42:=g5;have f61:=cM;have f71:=eH;have f72:=eI;have f85:=dB;clear U ab aa af ad ah ag ar ao aA aB dx g5 cM eH eI dB)))
      | (refine aJ _ (by simp(disch:=omega) [b1,cN,bK,cr,eM,eN,aj,hm,aq,f0,f1,f2,f3,f4,f5,f6,f7,f8,f9,f10,f21,f42,f61,f71,f72,f85];rfl) (fun I=>?_) (fun I=>?_)<;>first|(exfalso;simp(disch:=omega) [b1,cN,bK,cr,eM,eN,aj,hm,aq] at I;done)|(exfalso;simp at I;omega)|(simp at I))
      | ((first|refine aH ?_|refine aN ?_);simp(disch:=omega) [b1,cN,bK,cr,eM,eN,aj,hm,aq,f0,f1,f2,f3,f4,f5,f6,f7,f8,f9,f10,f21,f42,f61,f71,f72,f85]))
     refine na (fun k st=>z3 f w E k st) (fun _=>False) (fun st=>st.F 4= .int .i64 E) (E - f.bd).toNat ?_ ?_ (fun _ _ h=>h.elim) ?_
     · exact ⟨f.bd,by omega,Int.le_refl _,⟨f2,f3,by rw[show f.bd=dg by omega];exact f5,_,f6,by simp[aG],by simp⟩,by simp[aG],by simp[aG],by simp,fun _=>rfl⟩
     · rintro k st aI ⟨c,oe,ck,⟨br,eS,ev,q,ht,cw,cO⟩,cx,cy,cd,bD⟩
       have dD:c<=E:=by omega
       have f2:=br
       have f3:=eS
       have f5:=ev
       have f6:=ht
       clear br eS ev ht
       obtain⟨s2,b3,ed⟩:=gM c ck (by omega)
       have s1:=kT c ck (by omega)
       refine al [2,3,4,5,6,9,10,85] ?_
       intro F
       simp only[ak]
       intro aa af ad ah ag aA aB dB
       try simp[aS,f2,f3,f5,f6] at aa af ad ah ag aA aB dB
       clear f2 f3 f5 f6
       have f2:=aa
       have f3:=af
       have f4:=ad
       have f5:=ah
       have f6:=ag
       have f9:=aA
       have f10:=aB
       have f85:=dB
       clear aa af ad ah ag aA aB dB
       by_cases dI:dZ w<cj f.β (c+f.p)
       · obtain rfl:=dL.stop hz dD ck dI
         have ca:(cT (cW f.β w c) (b9 f.β w c*f.β^f.p)<Z 0)=True:=by rw[ed];exact eq_true dI
         clear ed dI gM kT oe dL
         generalize cT (cW f.β w c) (b9 f.β w c*f.β^f.p)=dV at*
         generalize ((b9 f.β w c*f.β^f.p:Nat):Int)=pq at*
         generalize ((b9 f.β w c:Nat):Int)=oL at*
         generalize ((cW f.β w c:Nat):Int)=pr at*
         generalize lO:((f.β^f.p:Nat):Int)=n' at*
         have cn:q≠st.h.next+7/\q≠st.h.next+8:=⟨by omega,by omega⟩
         repeat' (first
          | refine ax ?_
          | ((fail_if_success (refine aQ ?_));(fail_if_success (refine aR ?_));refine aL ?_)
          | ((first|(refine az aM ?_;simp(disch:=omega) [cx,cy,cw,cd,cO,s1,s2,b3,ca,bD,cn,f2,f3,f4,f5,f6,f9,f10,f85];(try(refine⟨by first|decide|rfl,?_⟩)))|(refine aK ?_;simp(disch:=omega) [cx,cy,cw,cd,cO,s1,s2,b3,ca,bD,cn,f2,f3,f4,f5,f6,f9,f10,f85]));(try(refine al [2,3,4,5,6,9,10,85] ?_;intro F;simp only[ak];intro aa af ad ah ag aA aB dB;simp(disch:=omega) [cx,cy,cw,cd,cO,s1,s2,b3,ca,bD,cn,f2,f3,f4,f5,f6,f9,f10,f85] at aa af ad ah ag aA aB dB;clear f2 f3 f4 f5 f6 f9 f10 f85;have f2:=aa;have f3:=af;have f4:=ad;have f5:=ah;have f6:=ag;have f9:=aA;have f10:=aB;have f85:=dB;clear aa af ad ah ag aA aB dB)))
          | (refine aJ _ (by simp(disch:=omega) [cx,cy,cw,cd,cO,s1,s2,b3,ca,bD,cn,f2,f3,f4,f5,f6,f9,f10,f85];rfl) (fun I=>?_) (fun I=>?_)<;>first|(exfalso;simp(disch:=omega) [cx,cy,cw,cd,cO,s1,s2,b3,ca,bD,cn] at I;done)|(exfalso;simp at I;omega)|(simp at I))
          | ((first|refine aH ?_|refine aN ?_);simp(disch:=omega) [cx,cy,cw,cd,cO,s1,s2,b3,ca,bD,cn,f2,f3,f4,f5,f6,f9,f10,f85]))
       · have lh:=dL.go hz dI
         have ca:(cT (cW f.β w c) (b9 f.β w c*f.β^f.p)<Z 0)=False:=by rw[ed];exact eq_false dI
         have eT:IntKind.i64.wrap (c+Z 1)=c+Z 1:=wrap_i64 (by simp only[Z];omega) (by simp only[Z];omega)
         clear ed dI gM kT dL
         generalize cT (cW f.β w c) (b9 f.β w c*f.β^f.p)=dV at*
         generalize ((b9 f.β w c*f.β^f.p:Nat):Int)=pq at*
         generalize ((b9 f.β w c:Nat):Int)=oL at*
         generalize ((cW f.β w c:Nat):Int)=pr at*
         generalize lO:((f.β^f.p:Nat):Int)=n' at*
         have cn:q≠st.h.next+7/\q≠st.h.next+8:=⟨by omega,by omega⟩
         repeat' (first
          | refine ax ?_
          | ((fail_if_success (refine aQ ?_));(fail_if_success (refine aR ?_));refine aL ?_)
          | ((first|(refine az aM ?_;simp(disch:=omega) [cx,cy,cw,cd,cO,s1,s2,b3,ca,bD,eT,cn,f2,f3,f4,f5,f6,f9,f10,f85];(try(refine⟨by first|decide|rfl,?_⟩)))|(refine aK ?_;simp(disch:=omega) [cx,cy,cw,cd,cO,s1,s2,b3,ca,bD,eT,cn,f2,f3,f4,f5,f6,f9,f10,f85]));(try(refine al [2,3,4,5,6,9,10,85] ?_;intro F;simp only[ak];intro aa af ad ah ag aA aB dB;simp(disch:=omega) [cx,cy,cw,cd,cO,s1,s2,b3,ca,bD,eT,cn,f2,f3,f4,f5,f6,f9,f10,f85] at aa af ad ah ag aA aB dB;clear f2 f3 f4 f5 f6 f9 f10 f85;have f2:=aa;have f3:=af;have f4:=ad;have f5:=ah;have f6:=ag;have f9:=aA;have f10:=aB;have f85:=dB;clear aa af ad ah ag aA aB dB)))
          | (refine aJ _ (by simp(disch:=omega) [cx,cy,cw,cd,cO,s1,s2,b3,ca,bD,eT,cn,f2,f3,f4,f5,f6,f9,f10,f85];rfl) (fun I=>?_) (fun I=>?_)<;>first|(exfalso;simp(disch:=omega) [cx,cy,cw,cd,cO,s1,s2,b3,ca,bD,eT,cn] at I;done)|(exfalso;simp at I;omega)|(simp at I))
          | ((first|refine aH ?_|refine aN ?_);simp(disch:=omega) [cx,cy,cw,cd,cO,s1,s2,b3,ca,bD,eT,cn,f2,f3,f4,f5,f6,f9,f10,f85]))
         have b7:Z 1=1:=rfl
         clear eT ca s1 s2 b3 aI
         refine⟨k - 1,by omega,c+Z 1,by omega,by omega,⟨f2,f3,rfl,q,f6,?_,by simp only;omega⟩,?_,?_,by simp only;omega,fun _=>rfl⟩
         · rw[lO];simp only[aG];repeat rw[if_neg (by omega)]
           exact cw
         · simp only[aG];repeat rw[if_neg (by omega)]
           exact cx
         · simp only[aG];repeat rw[if_neg (by omega)]
           exact cy
     · rintro st aI a2
       simp[a2]
 · have aj:(f.β == 10)=true:=by rw[au];rfl
   clear au ze pV d1 d2
   by_cases te:f.bd<dg
   · have aq:(f.bd<dg)=True:=eq_true te
     have s1:=kT dg bz b4
     refine al [0,1,2,3,4,5,6,7,8,9,10,21,42,61,71,72,85] fun F=>?_
     simp only[ak]
     intro f0 f1 f2 f3 f4 f5 f6 f7 f8 f9 f10 f21 f42 f61 f71 f72 f85
     simp[a8] at f0 f1 f2 f3 f4 f5 f6 f7 f8 f9 f10 f21 f42 f61 f71 f72 f85
     repeat' (first
      | refine ax ?_
      | ((fail_if_success (refine aQ ?_));(fail_if_success (refine aR ?_));refine aL ?_)
      | ((first|(refine az aM ?_;simp(disch:=omega) [b1,cN,bK,cr,eM,eN,aj,hm,aq,s1,f0,f1,f2,f3,f4,f5,f6,f7,f8,f9,f10,f21,f42,f61,f71,f72,f85];(try(refine⟨by first|decide|rfl,?_⟩)))|(refine aK ?_;simp(disch:=omega) [b1,cN,bK,cr,eM,eN,aj,hm,aq,s1,f0,f1,f2,f3,f4,f5,f6,f7,f8,f9,f10,f21,f42,f61,f71,f72,f85]));(try(refine al [0,1,2,3,4,5,6,7,8,9,10,21,42,61,71,72,85] ?_;intro F;simp only[ak];intro U ab aa af ad ah ag ar ao aA aB dx g5 cM eH eI dB;simp(disch:=omega) [b1,cN,bK,cr,eM,eN,aj,hm,aq,s1,f0,f1,f2,f3,f4,f5,f6,f7,f8,f9,f10,f21,f42,f61,f71,f72,f85] at U ab aa af ad ah ag ar ao aA aB dx g5 cM eH eI dB;clear f0 f1 f2 f3 f4 f5 f6 f7 f8 f9 f10 f21 f42 f61 f71 f72 f85;have f0:=U;have f1:=ab;have f2:=aa;have f3:=af;have f4:=ad;have f5:=ah;have f6:=ag;have f7:=ar;have f8:=ao;have f9:=aA;have f10:=aB;have f21:=dx;have f42:=g5;have f61:=cM;have f71:=eH;have f72:=eI;have f85:=dB;clear U ab aa af ad ah ag ar ao aA aB dx g5 cM eH eI dB)))
      | (refine aJ _ (by simp(disch:=omega) [b1,cN,bK,cr,eM,eN,aj,hm,aq,s1,f0,f1,f2,f3,f4,f5,f6,f7,f8,f9,f10,f21,f42,f61,f71,f72,f85];rfl) (fun I=>?_) (fun I=>?_)<;>first|(exfalso;simp(disch:=omega) [b1,cN,bK,cr,eM,eN,aj,hm,aq,s1] at I;done)|(exfalso;simp at I;omega)|(simp at I))
      | ((first|refine aH ?_|refine aN ?_);simp(disch:=omega) [b1,cN,bK,cr,eM,eN,aj,hm,aq,s1,f0,f1,f2,f3,f4,f5,f6,f7,f8,f9,f10,f21,f42,f61,f71,f72,f85]))
     refine na (fun k st=>Lg f w k st) (fun st=>Lh f w E st) (fun _=>False) (dg - f.bd).toNat ?_ ?_ ?_ (fun _ _ h=>h.elim)
     · exact ⟨dg,by omega,b4,⟨⟨f2,f3,f5,_,f6,by simp[aG],by simp⟩,by simp[aG],by simp[aG],by simp,fun _=>rfl⟩,_,_,f7,f8,by simp[aG],by simp[aG],by simp,by simp⟩
     · clear f0 f1 f2 f3 f4 f5 f6 f7 f8 f9 f10 f21 f42 f61 f71 f72 f85 s1 b1 cN bK cr eM eN hm aj aq
       rintro k st aI ⟨c,oe,pe,⟨⟨br,eS,ev,q,ht,cw,cO⟩,cx,cy,cd,bD⟩,se,xA,h4,kp,fp,fq,fr,fs⟩
       have f2:=br
       have f3:=eS
       have f5:=ev
       have f6:=ht
       have f7:=h4
       have f8:=kp
       clear br eS ev ht h4 kp
       have ck:f.bd<=c:=by omega
       obtain⟨s2,b3,ed⟩:=gM c ck pe
       refine al [2,3,5,6,7,8,61,71,72] ?_
       intro F
       simp only[ak]
       intro aa af ah ag ar ao cM eH eI
       try simp[aS,f2,f3,f5,f6,f7,f8] at aa af ah ag ar ao cM eH eI
       clear f2 f3 f5 f6 f7 f8
       have f2:=aa
       have f3:=af
       have f5:=ah
       have f6:=ag
       have f7:=ar
       have f8:=ao
       have f61:=cM
       have f71:=eH
       have f72:=eI
       clear aa af ah ag ar ao cM eH eI
       by_cases nq:f.bd<c
       · have aW:(f.bd<c)=True:=eq_true nq
         by_cases dI:dZ w<cj f.β (c+f.p)
         · have ca:(cT (cW f.β w c) (b9 f.β w c*f.β^f.p)<Z 0)=True:=by rw[ed];exact eq_true dI
           have wd:IntKind.i64.wrap (c - Z 1)=c - Z 1:=wrap_i64 (by simp only[Z];omega) (by simp only[Z];omega)
           have s1:=kT (c - Z 1) (by simp only[Z];omega) (by simp only[Z];omega)
           clear ed dI gM kT dL
           generalize Dt:((cW f.β w (c - Z 1):Nat):Int)=Yp at*
           generalize Du:((b9 f.β w (c - Z 1):Nat):Int)=Yq at*
           generalize cT (cW f.β w c) (b9 f.β w c*f.β^f.p)=dV at*
           generalize ((b9 f.β w c*f.β^f.p:Nat):Int)=pq at*
           generalize ((b9 f.β w c:Nat):Int)=oL at*
           generalize ((cW f.β w c:Nat):Int)=pr at*
           generalize lO:((f.β^f.p:Nat):Int)=n' at*
           repeat' (first
            | refine ax ?_
            | ((fail_if_success (refine aQ ?_));(fail_if_success (refine aR ?_));refine aL ?_)
            | ((first|(refine az aM ?_;simp(disch:=omega) [cx,cy,cw,fp,fq,cd,cO,fr,fs,s1,s2,b3,ca,bD,wd,aW,f2,f3,f5,f6,f7,f8,f61,f71,f72];(try(refine⟨by first|decide|rfl,?_⟩)))|(refine aK ?_;simp(disch:=omega) [cx,cy,cw,fp,fq,cd,cO,fr,fs,s1,s2,b3,ca,bD,wd,aW,f2,f3,f5,f6,f7,f8,f61,f71,f72]));(try(refine al [2,3,5,6,7,8,61,71,72] ?_;intro F;simp only[ak];intro aa af ah ag ar ao cM eH eI;simp(disch:=omega) [cx,cy,cw,fp,fq,cd,cO,fr,fs,s1,s2,b3,ca,bD,wd,aW,f2,f3,f5,f6,f7,f8,f61,f71,f72] at aa af ah ag ar ao cM eH eI;clear f2 f3 f5 f6 f7 f8 f61 f71 f72;have f2:=aa;have f3:=af;have f5:=ah;have f6:=ag;have f7:=ar;have f8:=ao;have f61:=cM;have f71:=eH;have f72:=eI;clear aa af ah ag ar ao cM eH eI)))
            | (refine aJ _ (by simp(disch:=omega) [cx,cy,cw,fp,fq,cd,cO,fr,fs,s1,s2,b3,ca,bD,wd,aW,f2,f3,f5,f6,f7,f8,f61,f71,f72];rfl) (fun I=>?_) (fun I=>?_)<;>first|(exfalso;simp(disch:=omega) [cx,cy,cw,fp,fq,cd,cO,fr,fs,s1,s2,b3,ca,bD,wd,aW] at I;done)|(exfalso;simp at I;omega)|(simp at I))
            | ((first|refine aH ?_|refine aN ?_);simp(disch:=omega) [cx,cy,cw,fp,fq,cd,cO,fr,fs,s1,s2,b3,ca,bD,wd,aW,f2,f3,f5,f6,f7,f8,f61,f71,f72]))
           have b7:Z 1=1:=rfl
           clear wd ca s1 s2 b3 aI
           refine⟨k - 1,by omega,c - Z 1,by omega,by omega,⟨⟨f2,f3,f5,q,f6,?_,by simp only;omega⟩,?_,?_,by simp only;omega,fun _=>rfl⟩,_,_,f7,f8,?_,?_,by simp only;omega,by simp only;omega⟩
           · rw[lO];simp only[aG];repeat rw[if_neg (by omega)]
             exact cw
           · simp only[aG];repeat rw[if_neg (by omega)]
             exact cx
           · simp only[aG];repeat rw[if_neg (by omega)]
             exact cy
           · rw[Dt];simp only[aG];rw[if_neg (by omega),if_pos trivial]
           · rw[Du];simp only[aG];rw[if_pos trivial]
         · have ca:(cT (cW f.β w c) (b9 f.β w c*f.β^f.p)<Z 0)=False:=by rw[ed];exact eq_false dI
           have lh:=dL.go hz dI
           clear ed dI gM kT dL
           generalize cT (cW f.β w c) (b9 f.β w c*f.β^f.p)=dV at*
           generalize ((b9 f.β w c*f.β^f.p:Nat):Int)=pq at*
           generalize ((b9 f.β w c:Nat):Int)=oL at*
           generalize ((cW f.β w c:Nat):Int)=pr at*
           generalize lO:((f.β^f.p:Nat):Int)=n' at*
           repeat' (first
            | refine ax ?_
            | ((fail_if_success (refine aQ ?_));(fail_if_success (refine aR ?_));refine aL ?_)
            | ((first|(refine az aM ?_;simp(disch:=omega) [cx,cy,cw,fp,fq,cd,cO,fr,fs,s2,b3,ca,bD,aW,f2,f3,f5,f6,f7,f8,f61,f71,f72];(try(refine⟨by first|decide|rfl,?_⟩)))|(refine aK ?_;simp(disch:=omega) [cx,cy,cw,fp,fq,cd,cO,fr,fs,s2,b3,ca,bD,aW,f2,f3,f5,f6,f7,f8,f61,f71,f72]));(try(refine al [2,3,5,6,7,8,61,71,72] ?_;intro F;simp only[ak];intro aa af ah ag ar ao cM eH eI;simp(disch:=omega) [cx,cy,cw,fp,fq,cd,cO,fr,fs,s2,b3,ca,bD,aW,f2,f3,f5,f6,f7,f8,f61,f71,f72] at aa af ah ag ar ao cM eH eI;clear f2 f3 f5 f6 f7 f8 f61 f71 f72;have f2:=aa;have f3:=af;have f5:=ah;have f6:=ag;have f7:=ar;have f8:=ao;have f61:=cM;have f71:=eH;have f72:=eI;clear aa af ah ag ar ao cM eH eI)))
            | (refine aJ _ (by simp(disch:=omega) [cx,cy,cw,fp,fq,cd,cO,fr,fs,s2,b3,ca,bD,aW,f2,f3,f5,f6,f7,f8,f61,f71,f72];rfl) (fun I=>?_) (fun I=>?_)<;>first|(exfalso;simp(disch:=omega) [cx,cy,cw,fp,fq,cd,cO,fr,fs,s2,b3,ca,bD,aW] at I;done)|(exfalso;simp at I;omega)|(simp at I))
            | ((first|refine aH ?_|refine aN ?_);simp(disch:=omega) [cx,cy,cw,fp,fq,cd,cO,fr,fs,s2,b3,ca,bD,aW,f2,f3,f5,f6,f7,f8,f61,f71,f72]))
           exact ⟨c,ck,by omega,⟨f2,f3,f5,q,f6,by rw[lO];exact cw,by simp only;omega⟩,cx,cy,by simp only;omega,fun j=>by simp only[bD]⟩
       · have aW:(f.bd<c)=False:=eq_false nq
         clear ed gM kT dL s2 b3
         repeat' (first
          | refine ax ?_
          | ((fail_if_success (refine aQ ?_));(fail_if_success (refine aR ?_));refine aL ?_)
          | ((first|(refine az aM ?_;simp(disch:=omega) [cx,cy,cw,fp,fq,cd,cO,fr,fs,bD,aW,f2,f3,f5,f6,f7,f8,f61,f71,f72];(try(refine⟨by first|decide|rfl,?_⟩)))|(refine aK ?_;simp(disch:=omega) [cx,cy,cw,fp,fq,cd,cO,fr,fs,bD,aW,f2,f3,f5,f6,f7,f8,f61,f71,f72]));(try(refine al [2,3,5,6,7,8,61,71,72] ?_;intro F;simp only[ak];intro aa af ah ag ar ao cM eH eI;simp(disch:=omega) [cx,cy,cw,fp,fq,cd,cO,fr,fs,bD,aW,f2,f3,f5,f6,f7,f8,f61,f71,f72] at aa af ah ag ar ao cM eH eI;clear f2 f3 f5 f6 f7 f8 f61 f71 f72;have f2:=aa;have f3:=af;have f5:=ah;have f6:=ag;have f7:=ar;have f8:=ao;have f61:=cM;have f71:=eH;have f72:=eI;clear aa af ah ag ar ao cM eH eI)))
          | (refine aJ _ (by simp(disch:=omega) [cx,cy,cw,fp,fq,cd,cO,fr,fs,bD,aW,f2,f3,f5,f6,f7,f8,f61,f71,f72];rfl) (fun I=>?_) (fun I=>?_)<;>first|(exfalso;simp(disch:=omega) [cx,cy,cw,fp,fq,cd,cO,fr,fs,bD,aW] at I;done)|(exfalso;simp at I;omega)|(simp at I))
          | ((first|refine aH ?_|refine aN ?_);simp(disch:=omega) [cx,cy,cw,fp,fq,cd,cO,fr,fs,bD,aW,f2,f3,f5,f6,f7,f8,f61,f71,f72]))
         exact ⟨c,ck,by omega,⟨f2,f3,f5,q,f6,cw,by simp only;omega⟩,cx,cy,by simp only;omega,fun j=>by simp only[bD]⟩
     · clear f0 f1 f2 f3 f4 f5 f6 f7 f8 f9 f10 f21 f42 f61 f71 f72 f85 s1 b1 cN bK cr eM eN hm aj aq
       rintro st aI ⟨c,ck,dD,⟨br,eS,ev,q,ht,cw,cO⟩,cx,cy,cd,bD⟩
       refine na (fun k st=>z3 f w E k st) (fun _=>False) (fun st=>st.F 4= .int .i64 E) (E - c).toNat ⟨c,by omega,ck,⟨br,eS,ev,q,ht,cw,cO⟩,cx,cy,cd,bD⟩ ?_ (fun _ _ h=>h.elim) ?_
       · rintro k st aI ⟨c,oe,ck,⟨br,eS,ev,q,ht,cw,cO⟩,cx,cy,cd,bD⟩
         have dD:c<=E:=by omega
         have f2:=br
         have f3:=eS
         have f5:=ev
         have f6:=ht
         clear br eS ev ht
         obtain⟨s2,b3,ed⟩:=gM c ck (by omega)
         have s1:=kT c ck (by omega)
         refine al [2,3,4,5,6,9,10,85] ?_
         intro F
         simp only[ak]
         intro aa af ad ah ag aA aB dB
         try simp[aS,f2,f3,f5,f6] at aa af ad ah ag aA aB dB
         clear f2 f3 f5 f6
         have f2:=aa
         have f3:=af
         have f4:=ad
         have f5:=ah
         have f6:=ag
         have f9:=aA
         have f10:=aB
         have f85:=dB
         clear aa af ad ah ag aA aB dB
         by_cases dI:dZ w<cj f.β (c+f.p)
         · obtain rfl:=dL.stop hz dD ck dI
           have ca:(cT (cW f.β w c) (b9 f.β w c*f.β^f.p)<Z 0)=True:=by rw[ed];exact eq_true dI
           clear ed dI gM kT oe dL
           generalize cT (cW f.β w c) (b9 f.β w c*f.β^f.p)=dV at*
           generalize ((b9 f.β w c*f.β^f.p:Nat):Int)=pq at*
           generalize ((b9 f.β w c:Nat):Int)=oL at*
           generalize ((cW f.β w c:Nat):Int)=pr at*
           generalize lO:((f.β^f.p:Nat):Int)=n' at*
           have cn:q≠st.h.next+7/\q≠st.h.next+8:=⟨by omega,by omega⟩
           repeat' (first
            | refine ax ?_
            | ((fail_if_success (refine aQ ?_));(fail_if_success (refine aR ?_));refine aL ?_)
            | ((first|(refine az aM ?_;simp(disch:=omega) [cx,cy,cw,cd,cO,s1,s2,b3,ca,bD,cn,f2,f3,f4,f5,f6,f9,f10,f85];(try(refine⟨by first|decide|rfl,?_⟩)))|(refine aK ?_;simp(disch:=omega) [cx,cy,cw,cd,cO,s1,s2,b3,ca,bD,cn,f2,f3,f4,f5,f6,f9,f10,f85]));(try(refine al [2,3,4,5,6,9,10,85] ?_;intro F;simp only[ak];intro aa af ad ah ag aA aB dB;simp(disch:=omega) [cx,cy,cw,cd,cO,s1,s2,b3,ca,bD,cn,f2,f3,f4,f5,f6,f9,f10,f85] at aa af ad ah ag aA aB dB;clear f2 f3 f4 f5 f6 f9 f10 f85;have f2:=aa;have f3:=af;have f4:=ad;have f5:=ah;have f6:=ag;have f9:=aA;have f10:=aB;have f85:=dB;clear aa af ad ah ag aA aB dB)))
            | (refine aJ _ (by simp(disch:=omega) [cx,cy,cw,cd,cO,s1,s2,b3,ca,bD,cn,f2,f3,f4,f5,f6,f9,f10,f85];rfl) (fun I=>?_) (fun I=>?_)<;>first|(exfalso;simp(disch:=omega) [cx,cy,cw,cd,cO,s1,s2,b3,ca,bD,cn] at I;done)|(exfalso;simp at I;omega)|(simp at I))
            | ((first|refine aH ?_|refine aN ?_);simp(disch:=omega) [cx,cy,cw,cd,cO,s1,s2,b3,ca,bD,cn,f2,f3,f4,f5,f6,f9,f10,f85]))
         · have lh:=dL.go hz dI
           have ca:(cT (cW f.β w c) (b9 f.β w c*f.β^f.p)<Z 0)=False:=by rw[ed];exact eq_false dI
           have eT:IntKind.i64.wrap (c+Z 1)=c+Z 1:=wrap_i64 (by simp only[Z];omega) (by simp only[Z];omega)
           clear ed dI gM kT dL
           generalize cT (cW f.β w c) (b9 f.β w c*f.β^f.p)=dV at*
           generalize ((b9 f.β w c*f.β^f.p:Nat):Int)=pq at*
           generalize ((b9 f.β w c:Nat):Int)=oL at*
           generalize ((cW f.β w c:Nat):Int)=pr at*
           generalize lO:((f.β^f.p:Nat):Int)=n' at*
           have cn:q≠st.h.next+7/\q≠st.h.next+8:=⟨by omega,by omega⟩
           repeat' (first
            | refine ax ?_
            | ((fail_if_success (refine aQ ?_));(fail_if_success (refine aR ?_));refine aL ?_)
            | ((first|(refine az aM ?_;simp(disch:=omega) [cx,cy,cw,cd,cO,s1,s2,b3,ca,bD,eT,cn,f2,f3,f4,f5,f6,f9,f10,f85];(try(refine⟨by first|decide|rfl,?_⟩)))|(refine aK ?_;simp(disch:=omega) [cx,cy,cw,cd,cO,s1,s2,b3,ca,bD,eT,cn,f2,f3,f4,f5,f6,f9,f10,f85]));(try(refine al [2,3,4,5,6,9,10,85] ?_;intro F;simp only[ak];intro aa af ad ah ag aA aB dB;simp(disch:=omega) [cx,cy,cw,cd,cO,s1,s2,b3,ca,bD,eT,cn,f2,f3,f4,f5,f6,f9,f10,f85] at aa af ad ah ag aA aB dB;clear f2 f3 f4 f5 f6 f9 f10 f85;have f2:=aa;have f3:=af;have f4:=ad;have f5:=ah;have f6:=ag;have f9:=aA;have f10:=aB;have f85:=dB;clear aa af ad ah ag aA aB dB)))
            | (refine aJ _ (by simp(disch:=omega) [cx,cy,cw,cd,cO,s1,s2,b3,ca,bD,eT,cn,f2,f3,f4,f5,f6,f9,f10,f85];rfl) (fun I=>?_) (fun I=>?_)<;>first|(exfalso;simp(disch:=omega) [cx,cy,cw,cd,cO,s1,s2,b3,ca,bD,eT,cn] at I;done)|(exfalso;simp at I;omega)|(simp at I))
            | ((first|refine aH ?_|refine aN ?_);simp(disch:=omega) [cx,cy,cw,cd,cO,s1,s2,b3,ca,bD,eT,cn,f2,f3,f4,f5,f6,f9,f10,f85]))
           have b7:Z 1=1:=rfl
           clear eT ca s1 s2 b3 aI
           refine⟨k - 1,by omega,c+Z 1,by omega,by omega,⟨f2,f3,rfl,q,f6,?_,by simp only;omega⟩,?_,?_,by simp only;omega,fun _=>rfl⟩
           · rw[lO];simp only[aG];repeat rw[if_neg (by omega)]
             exact cw
           · simp only[aG];repeat rw[if_neg (by omega)]
             exact cx
           · simp only[aG];repeat rw[if_neg (by omega)]
             exact cy
       · rintro st aI a2
         simp[a2]
   · have aq:(f.bd<dg)=False:=eq_false te
     refine al [0,1,2,3,4,5,6,7,8,9,10,21,42,61,71,72,85] fun F=>?_
     simp only[ak]
     intro f0 f1 f2 f3 f4 f5 f6 f7 f8 f9 f10 f21 f42 f61 f71 f72 f85
     simp[a8] at f0 f1 f2 f3 f4 f5 f6 f7 f8 f9 f10 f21 f42 f61 f71 f72 f85
     repeat' (first
      | refine ax ?_
      | ((fail_if_success (refine aQ ?_));(fail_if_success (refine aR ?_));refine aL ?_)
      | ((first|(refine az aM ?_;simp(disch:=omega) [b1,cN,bK,cr,eM,eN,aj,hm,aq,f0,f1,f2,f3,f4,f5,f6,f7,f8,f9,f10,f21,f42,f61,f71,f72,f85];(try(refine⟨by first|decide|rfl,?_⟩)))|(refine aK ?_;simp(disch:=omega) [b1,cN,bK,cr,eM,eN,aj,hm,aq,f0,f1,f2,f3,f4,f5,f6,f7,f8,f9,f10,f21,f42,f61,f71,f72,f85]));(try(refine al [0,1,2,3,4,5,6,7,8,9,10,21,42,61,71,72,85] ?_;intro F;simp only[ak];intro U ab aa af ad ah ag ar ao aA aB dx g5 cM eH eI dB;simp(disch:=omega) [b1,cN,bK,cr,eM,eN,aj,hm,aq,f0,f1,f2,f3,f4,f5,f6,f7,f8,f9,f10,f21,f42,f61,f71,f72,f85] at U ab aa af ad ah ag ar ao aA aB dx g5 cM eH eI dB;clear f0 f1 f2 f3 f4 f5 f6 f7 f8 f9 f10 f21 f42 f61 f71 f72 f85;have f0:=U;have f1:=ab;have f2:=aa;have f3:=af;have f4:=ad;have f5:=ah;have f6:=ag;have f7:=ar;have f8:=ao;have f9:=aA;have f10:=aB;have f21:=dx;have f42:=g5;have f61:=cM;have f71:=eH;have f72:=eI;have f85:=dB;clear U ab aa af ad ah ag ar ao aA aB dx g5 cM eH eI dB)))
      | (refine aJ _ (by simp(disch:=omega) [b1,cN,bK,cr,eM,eN,aj,hm,aq,f0,f1,f2,f3,f4,f5,f6,f7,f8,f9,f10,f21,f42,f61,f71,f72,f85];rfl) (fun I=>?_) (fun I=>?_)<;>first|(exfalso;simp(disch:=omega) [b1,cN,bK,cr,eM,eN,aj,hm,aq] at I;done)|(exfalso;simp at I;omega)|(simp at I))
      | ((first|refine aH ?_|refine aN ?_);simp(disch:=omega) [b1,cN,bK,cr,eM,eN,aj,hm,aq,f0,f1,f2,f3,f4,f5,f6,f7,f8,f9,f10,f21,f42,f61,f71,f72,f85]))
     refine na (fun k st=>z3 f w E k st) (fun _=>False) (fun st=>st.F 4= .int .i64 E) (E - f.bd).toNat ?_ ?_ (fun _ _ h=>h.elim) ?_
     · exact ⟨f.bd,by omega,Int.le_refl _,⟨f2,f3,by rw[show f.bd=dg by omega];exact f5,_,f6,by simp[aG],by simp⟩,by simp[aG],by simp[aG],by simp,fun _=>rfl⟩
     · rintro k st aI ⟨c,oe,ck,⟨br,eS,ev,q,ht,cw,cO⟩,cx,cy,cd,bD⟩
       have dD:c<=E:=by omega
       have f2:=br
       have f3:=eS
       have f5:=ev
       have f6:=ht
       clear br eS ev ht
       obtain⟨s2,b3,ed⟩:=gM c ck (by omega)
       have s1:=kT c ck (by omega)
       refine al [2,3,4,5,6,9,10,85] ?_
       intro F
       simp only[ak]
       intro aa af ad ah ag aA aB dB
       try simp[aS,f2,f3,f5,f6] at aa af ad ah ag aA aB dB
       clear f2 f3 f5 f6
       have f2:=aa
       have f3:=af
       have f4:=ad
       have f5:=ah
       have f6:=ag
       have f9:=aA
       have f10:=aB
       have f85:=dB
       clear aa af ad ah ag aA aB dB
       by_cases dI:dZ w<cj f.β (c+f.p)
       · obtain rfl:=dL.stop hz dD ck dI
         have ca:(cT (cW f.β w c) (b9 f.β w c*f.β^f.p)<Z 0)=True:=by rw[ed];exact eq_true dI
         clear ed dI gM kT oe dL
         generalize cT (cW f.β w c) (b9 f.β w c*f.β^f.p)=dV at*
         generalize ((b9 f.β w c*f.β^f.p:Nat):Int)=pq at*
         generalize ((b9 f.β w c:Nat):Int)=oL at*
         generalize ((cW f.β w c:Nat):Int)=pr at*
         generalize lO:((f.β^f.p:Nat):Int)=n' at*
         have cn:q≠st.h.next+7/\q≠st.h.next+8:=⟨by omega,by omega⟩
         repeat' (first
          | refine ax ?_
          | ((fail_if_success (refine aQ ?_));(fail_if_success (refine aR ?_));refine aL ?_)
          | ((first|(refine az aM ?_;simp(disch:=omega) [cx,cy,cw,cd,cO,s1,s2,b3,ca,bD,cn,f2,f3,f4,f5,f6,f9,f10,f85];(try(refine⟨by first|decide|rfl,?_⟩)))|(refine aK ?_;simp(disch:=omega) [cx,cy,cw,cd,cO,s1,s2,b3,ca,bD,cn,f2,f3,f4,f5,f6,f9,f10,f85]));(try(refine al [2,3,4,5,6,9,10,85] ?_;intro F;simp only[ak];intro aa af ad ah ag aA aB dB;simp(disch:=omega) [cx,cy,cw,cd,cO,s1,s2,b3,ca,bD,cn,f2,f3,f4,f5,f6,f9,f10,f85] at aa af ad ah ag aA aB dB;clear f2 f3 f4 f5 f6 f9 f10 f85;have f2:=aa;have f3:=af;have f4:=ad;have f5:=ah;have f6:=ag;have f9:=aA;have f10:=aB;have f85:=dB;clear aa af ad ah ag aA aB dB)))
          | (refine aJ _ (by simp(disch:=omega) [cx,cy,cw,cd,cO,s1,s2,b3,ca,bD,cn,f2,f3,f4,f5,f6,f9,f10,f85];rfl) (fun I=>?_) (fun I=>?_)<;>first|(exfalso;simp(disch:=omega) [cx,cy,cw,cd,cO,s1,s2,b3,ca,bD,cn] at I;done)|(exfalso;simp at I;omega)|(simp at I))
          | ((first|refine aH ?_|refine aN ?_);simp(disch:=omega) [cx,cy,cw,cd,cO,s1,s2,b3,ca,bD,cn,f2,f3,f4,f5,f6,f9,f10,f85]))
       · have lh:=dL.go hz dI
         have ca:(cT (cW f.β w c) (b9 f.β w c*f.β^f.p)<Z 0)=False:=by rw[ed];exact eq_false dI
         have eT:IntKind.i64.wrap (c+Z 1)=c+Z 1:=wrap_i64 (by simp only[Z];omega) (by simp only[Z];omega)
         clear ed dI gM kT dL
         generalize cT (cW f.β w c) (b9 f.β w c*f.β^f.p)=dV at*
         generalize ((b9 f.β w c*f.β^f.p:Nat):Int)=pq at*
         generalize ((b9 f.β w c:Nat):Int)=oL at*
         generalize ((cW f.β w c:Nat):Int)=pr at*
         generalize lO:((f.β^f.p:Nat):Int)=n' at*
         have cn:q≠st.h.next+7/\q≠st.h.next+8:=⟨by omega,by omega⟩
         repeat' (first
          | refine ax ?_
          | ((fail_if_success (refine aQ ?_));(fail_if_success (refine aR ?_));refine aL ?_)
          | ((first|(refine az aM ?_;simp(disch:=omega) [cx,cy,cw,cd,cO,s1,s2,b3,ca,bD,eT,cn,f2,f3,f4,f5,f6,f9,f10,f85];(try(refine⟨by first|decide|rfl,?_⟩)))|(refine aK ?_;simp(disch:=omega) [cx,cy,cw,cd,cO,s1,s2,b3,ca,bD,eT,cn,f2,f3,f4,f5,f6,f9,f10,f85]));(try(refine al [2,3,4,5,6,9,10,85] ?_;intro F;simp only[ak];intro aa af ad ah ag aA aB dB;simp(disch:=omega) [cx,cy,cw,cd,cO,s1,s2,b3,ca,bD,eT,cn,f2,f3,f4,f5,f6,f9,f10,f85] at aa af ad ah ag aA aB dB;clear f2 f3 f4 f5 f6 f9 f10 f85;have f2:=aa;have f3:=af;have f4:=ad;have f5:=ah;have f6:=ag;have f9:=aA;have f10:=aB;have f85:=dB;clear aa af ad ah ag aA aB dB)))
          | (refine aJ _ (by simp(disch:=omega) [cx,cy,cw,cd,cO,s1,s2,b3,ca,bD,eT,cn,f2,f3,f4,f5,f6,f9,f10,f85];rfl) (fun I=>?_) (fun I=>?_)<;>first|(exfalso;simp(disch:=omega) [cx,cy,cw,cd,cO,s1,s2,b3,ca,bD,eT,cn] at I;done)|(exfalso;simp at I;omega)|(simp at I))
          | ((first|refine aH ?_|refine aN ?_);simp(disch:=omega) [cx,cy,cw,cd,cO,s1,s2,b3,ca,bD,eT,cn,f2,f3,f4,f5,f6,f9,f10,f85]))
         have b7:Z 1=1:=rfl
         clear eT ca s1 s2 b3 aI
         refine⟨k - 1,by omega,c+Z 1,by omega,by omega,⟨f2,f3,rfl,q,f6,?_,by simp only;omega⟩,?_,?_,by simp only;omega,fun _=>rfl⟩
         · rw[lO];simp only[aG];repeat rw[if_neg (by omega)]
           exact cw
         · simp only[aG];repeat rw[if_neg (by omega)]
           exact cx
         · simp only[aG];repeat rw[if_neg (by omega)]
           exact cy
     · rintro st aI a2
       simp[a2]
end
section
attribute [local irreducible] cQ
attribute [local simp] ek eL du
noncomputable def eR:FuncId->Option (List J->Option J):=da [(13,tw),(73,zA),(74,z4),(75,tx),(76,vh),(77,ox),(79,zd),(78,pd),(51,nD),(80,hi),(45,mz),(46,ng),(81,zX)]
theorem Yr:∀f T,eR f=some T->bl Tryz.prog G f T:=dc (by simp only[List.forall_mem_cons];exact ⟨KX,Va,Yn,Lb,Kg,w1,SY,yZ,wZ,sR,sN,vz,XQ,fun _ h=>absurd h (by simp)⟩)
theorem Lj:eR 13=some tw:=rfl
theorem Lk:eR 73=some zA:=rfl
theorem Ll:eR 74=some z4:=rfl
theorem Lm:eR 75=some tx:=rfl
theorem Ln:eR 76=some vh:=rfl
theorem Lo:eR 77=some ox:=rfl
theorem Lp:eR 79=some zd:=rfl
theorem Lq:eR 78=some pd:=rfl
theorem Lr:eR 51=some nD:=rfl
theorem Ls:eR 80=some hi:=rfl
theorem Lt:eR 45=some mz:=rfl
theorem Lu:eR 46=some ng:=rfl
theorem Lv:eR 81=some zX:=rfl
theorem Lw:eR 72=none:=rfl
theorem Lx:eR 113=none:=rfl
theorem Ly:eR 114=none:=rfl
theorem Lz:eR 115=none:=rfl
theorem LA:eR 116=none:=rfl
theorem LB:eR 117=none:=rfl
theorem LC:eR 118=none:=rfl
theorem LD:eR 119=none:=rfl
theorem LF:eR 120=none:=rfl
attribute [local simp] Lj Lk Ll Lm Ln Lo Lp Lq Lr Ls Lt Lu Lv Lw Lx Ly Lz LA LB LC LD LF
theorem LG (Y:List dm):∃k,∀(C:Nat->Option (List J)) (n:Nat) (P:Nat->Option fu) (neg:Bool),fv G (bk Tryz.prog) eR Y (.fn 113) [.bool neg] ⟨C,fun _=>false,n,P⟩=some (.bool (true),⟨C,fun _=>false,n+k,P⟩):=by
 refine⟨2,fun C n P neg=>?_⟩
 obtain⟨v,ay,e,rfl,rfl⟩:=k3 (Φ:=bk Tryz.prog) (G:=G) (tab:=eR) (Y:=Y) (h:=⟨C,fun _=>false,n,P⟩) (args:=[.bool neg]) (R:=fun v ay=>v= .bool (true)/\ay=⟨C,fun _=>false,n+2,P⟩) GV (by
  unfold i113
  refine al [2] fun F=>?_
  simp only[ak]
  intro f2
  simp[a8] at f2
  repeat' (first
   | refine ax ?_
   | ((fail_if_success (refine aQ ?_));(fail_if_success (refine aR ?_));refine aL ?_)
   | ((first|(refine az cz ?_;simp(disch:=omega) [f2];(try(refine⟨by first|decide|rfl,?_⟩)))|(refine aK ?_;simp(disch:=omega) [f2]));(try(refine al [2] ?_;intro F;simp only[ak];intro aa;simp(disch:=omega) [f2] at aa;clear f2;have f2:=aa;clear aa)))
   | (refine aJ _ (by simp(disch:=omega) [f2];rfl) (fun I=>?_) (fun I=>?_)<;>first|(exfalso;simp(disch:=omega) at I;done)|(exfalso;simp at I;omega)|(simp at I))
   | ((first|refine aH ?_|refine aN ?_);simp(disch:=omega) [f2]))
  refine aH ?_
  simp[hT,f2])
 exact e
theorem Ys (Y:List dm):∃k,∀(C:Nat->Option (List J)) (n:Nat) (P:Nat->Option fu) (neg:Bool),fv G (bk Tryz.prog) eR Y (.fn 114) [.bool neg] ⟨C,fun _=>false,n,P⟩=some (.bool (false),⟨C,fun _=>false,n+k,P⟩):=by
 refine⟨2,fun C n P neg=>?_⟩
 obtain⟨v,ay,e,rfl,rfl⟩:=k3 (Φ:=bk Tryz.prog) (G:=G) (tab:=eR) (Y:=Y) (h:=⟨C,fun _=>false,n,P⟩) (args:=[.bool neg]) (R:=fun v ay=>v= .bool (false)/\ay=⟨C,fun _=>false,n+2,P⟩) GW (by
  unfold i114
  refine al [2] fun F=>?_
  simp only[ak]
  intro f2
  simp[a8] at f2
  repeat' (first
   | refine ax ?_
   | ((fail_if_success (refine aQ ?_));(fail_if_success (refine aR ?_));refine aL ?_)
   | ((first|(refine az cz ?_;simp(disch:=omega) [f2];(try(refine⟨by first|decide|rfl,?_⟩)))|(refine aK ?_;simp(disch:=omega) [f2]));(try(refine al [2] ?_;intro F;simp only[ak];intro aa;simp(disch:=omega) [f2] at aa;clear f2;have f2:=aa;clear aa)))
   | (refine aJ _ (by simp(disch:=omega) [f2];rfl) (fun I=>?_) (fun I=>?_)<;>first|(exfalso;simp(disch:=omega) at I;done)|(exfalso;simp at I;omega)|(simp at I))
   | ((first|refine aH ?_|refine aN ?_);simp(disch:=omega) [f2]))
  refine aH ?_
  simp[hT,f2])
 exact e
theorem Yt (Y:List dm):∃k,∀(C:Nat->Option (List J)) (n:Nat) (P:Nat->Option fu) (neg:Bool),fv G (bk Tryz.prog) eR Y (.fn 115) [.bool neg] ⟨C,fun _=>false,n,P⟩=some (.bool (neg),⟨C,fun _=>false,n+k,P⟩):=by
 refine⟨3,fun C n P neg=>?_⟩
 obtain⟨v,ay,e,rfl,rfl⟩:=k3 (Φ:=bk Tryz.prog) (G:=G) (tab:=eR) (Y:=Y) (h:=⟨C,fun _=>false,n,P⟩) (args:=[.bool neg]) (R:=fun v ay=>v= .bool (neg)/\ay=⟨C,fun _=>false,n+3,P⟩) GX (by
  unfold i115
  refine al [0,2] fun F=>?_
  simp only[ak]
  intro f0 f2
  simp[a8] at f0 f2
  repeat' (first
   | refine ax ?_
   | ((fail_if_success (refine aQ ?_));(fail_if_success (refine aR ?_));refine aL ?_)
   | ((first|(refine az cz ?_;simp(disch:=omega) [f0,f2];(try(refine⟨by first|decide|rfl,?_⟩)))|(refine aK ?_;simp(disch:=omega) [f0,f2]));(try(refine al [0,2] ?_;intro F;simp only[ak];intro U aa;simp(disch:=omega) [f0,f2] at U aa;clear f0 f2;have f0:=U;have f2:=aa;clear U aa)))
   | (refine aJ _ (by simp(disch:=omega) [f0,f2];rfl) (fun I=>?_) (fun I=>?_)<;>first|(exfalso;simp(disch:=omega) at I;done)|(exfalso;simp at I;omega)|(simp at I))
   | ((first|refine aH ?_|refine aN ?_);simp(disch:=omega) [f0,f2]))
  refine aH ?_
  simp[hT,f2])
 exact e
theorem Yu (Y:List dm):∃k,∀(C:Nat->Option (List J)) (n:Nat) (P:Nat->Option fu) (neg:Bool),fv G (bk Tryz.prog) eR Y (.fn 116) [.bool neg] ⟨C,fun _=>false,n,P⟩=some (.bool (!neg),⟨C,fun _=>false,n+k,P⟩):=by
 refine⟨4,fun C n P neg=>?_⟩
 obtain⟨v,ay,e,rfl,rfl⟩:=k3 (Φ:=bk Tryz.prog) (G:=G) (tab:=eR) (Y:=Y) (h:=⟨C,fun _=>false,n,P⟩) (args:=[.bool neg]) (R:=fun v ay=>v= .bool (!neg)/\ay=⟨C,fun _=>false,n+4,P⟩) GY (by
  unfold i116
  refine al [0,2] fun F=>?_
  simp only[ak]
  intro f0 f2
  simp[a8] at f0 f2
  repeat' (first
   | refine ax ?_
   | ((fail_if_success (refine aQ ?_));(fail_if_success (refine aR ?_));refine aL ?_)
   | ((first|(refine az cz ?_;simp(disch:=omega) [f0,f2];(try(refine⟨by first|decide|rfl,?_⟩)))|(refine aK ?_;simp(disch:=omega) [f0,f2]));(try(refine al [0,2] ?_;intro F;simp only[ak];intro U aa;simp(disch:=omega) [f0,f2] at U aa;clear f0 f2;have f0:=U;have f2:=aa;clear U aa)))
   | (refine aJ _ (by simp(disch:=omega) [f0,f2];rfl) (fun I=>?_) (fun I=>?_)<;>first|(exfalso;simp(disch:=omega) at I;done)|(exfalso;simp at I;omega)|(simp at I))
   | ((first|refine aH ?_|refine aN ?_);simp(disch:=omega) [f0,f2]))
  refine aH ?_
  simp[hT,f2])
 exact e
theorem Yw (Y:List dm) (C:Nat->Option (List J)) (n:Nat) (P:Nat->Option fu) (g:FuncId):
 ∃ay,fv G (bk Tryz.prog) eR Y (.fn 117) [.fn g [] []] ⟨C,fun _=>false,n,P⟩=some (.agg [.fn 118 [] [.ptr n 0 0],.fn g [] []],ay)/\ay=⟨aG (aG (aG C n (some [.fn g [] []])) (n+1) (some [.agg [.nilfn,.nilfn]])) (n+1) (some [.agg [.fn 118 [] [.ptr n 0 0],.fn g [] []]]),fun _=>false,n+2+4,P⟩:=by
 obtain⟨v,ay,e,rfl,rfl⟩:=k3 (Φ:=bk Tryz.prog) (G:=G) (tab:=eR) (Y:=Y) (h:=⟨C,fun _=>false,n,P⟩) (args:=[.fn g [] []]) (R:=fun v ay=>v= .agg [.fn 118 [] [.ptr n 0 0],.fn g [] []]/\ay=⟨aG (aG (aG C n (some [.fn g [] []])) (n+1) (some [.agg [.nilfn,.nilfn]])) (n+1) (some [.agg [.fn 118 [] [.ptr n 0 0],.fn g [] []]]),fun _=>false,n+2+4,P⟩) GZ (by
  unfold i117
  refine al [0,1,2] fun F=>?_
  simp only[ak]
  intro f0 f1 f2
  simp[a8] at f0 f1 f2
  repeat' (first
   | refine ax ?_
   | ((fail_if_success (refine aQ ?_));(fail_if_success (refine aR ?_));refine aL ?_)
   | ((first|(refine az cz ?_;simp(disch:=omega) [f0,f1,f2];(try(refine⟨by first|decide|rfl,?_⟩)))|(refine aK ?_;simp(disch:=omega) [f0,f1,f2]));(try(refine al [0,1,2] ?_;intro F;simp only[ak];intro U ab aa;simp(disch:=omega) [f0,f1,f2] at U ab aa;clear f0 f1 f2;have f0:=U;have f1:=ab;have f2:=aa;clear U ab aa)))
   | (refine aJ _ (by simp(disch:=omega) [f0,f1,f2];rfl) (fun I=>?_) (fun I=>?_)<;>first|(exfalso;simp(disch:=omega) at I;done)|(exfalso;simp at I;omega)|(simp at I))
   | ((first|refine aH ?_|refine aN ?_);simp(disch:=omega) [f0,f1,f2]))
  refine aH ?_
  simp[hT,f2])
 exact ⟨_,e,rfl⟩
theorem Yx (Y:List dm) (C:Nat->Option (List J)) (n:Nat) (P:Nat->Option fu) (g:FuncId):fv G (bk Tryz.prog) eR Y (.fn 117) [.fn g [] []] ⟨C,fun _=>false,n,P⟩=some (.agg [.fn 118 [] [.ptr n 0 0],.fn g [] []],⟨aG (aG (aG C n (some [.fn g [] []])) (n+1) (some [.agg [.nilfn,.nilfn]])) (n+1) (some [.agg [.fn 118 [] [.ptr n 0 0],.fn g [] []]]),fun _=>false,n+2+4,P⟩):=by
 obtain⟨ay,e,rfl⟩:=Yw Y C n P g
 exact e
abbrev LH (a b c:Nat):J:= .agg [.fn 119 [] [],.fn 113 [] [],.fn 120 [] [],.fn 113 [] [],.fn 118 [] [.ptr a 0 0],.fn 114 [] [],.fn 118 [] [.ptr b 0 0],.fn 116 [] [],.fn 118 [] [.ptr c 0 0],.fn 115 [] []]
structure Dv (h:aF) (a b c:Nat) (ay:aF):Prop where
 kept:Kept h ay
 qw:ay.cells a=some [.fn 114 [] []]
 qx:ay.cells b=some [.fn 116 [] []]
 dV:ay.cells c=some [.fn 115 [] []]
 cZ:h.next<=a/\a<ay.next
 cm:h.next<=b/\b<ay.next
 lc:h.next<=c/\c<ay.next
theorem LI (Y:List dm) (C:Nat->Option (List J)) (n:Nat) (P:Nat->Option fu):
 ∃a b c ay,fv G (bk Tryz.prog) eR Y (.fn 72) [] ⟨C,fun _=>false,n,P⟩=some (LH a b c,ay)/\Dv ⟨C,fun _=>false,n,P⟩ a b c ay:=by
 obtain⟨v,ay,e,a,b,c,rfl,H⟩:=k3 (Φ:=bk Tryz.prog) (G:=G) (tab:=eR) (Y:=Y) (h:=⟨C,fun _=>false,n,P⟩) (args:=[]) (R:=fun v ay=>∃a b c,v=LH a b c/\Dv ⟨C,fun _=>false,n,P⟩ a b c ay) Gq (by
  have ea:=Yx Y
  unfold i72
  refine al [0,1,2,3,4,5] fun F=>?_
  simp only[ak]
  intro f0 f1 f2 f3 f4 f5
  simp[a8] at f0 f1 f2 f3 f4 f5
  repeat' (first
   | refine ax ?_
   | ((fail_if_success (refine aQ ?_));(fail_if_success (refine aR ?_));refine aL ?_)
   | ((first|(refine az cz ?_;simp(disch:=omega) [ea,f0,f1,f2,f3,f4,f5];(try(refine⟨by first|decide|rfl,?_⟩)))|(refine aK ?_;simp(disch:=omega) [ea,f0,f1,f2,f3,f4,f5]));(try(refine al [0,1,2,3,4,5] ?_;intro F;simp only[ak];intro U ab aa af ad ah;simp(disch:=omega) [ea,f0,f1,f2,f3,f4,f5] at U ab aa af ad ah;clear f0 f1 f2 f3 f4 f5;have f0:=U;have f1:=ab;have f2:=aa;have f3:=af;have f4:=ad;have f5:=ah;clear U ab aa af ad ah)))
   | (refine aJ _ (by simp(disch:=omega) [ea,f0,f1,f2,f3,f4,f5];rfl) (fun I=>?_) (fun I=>?_)<;>first|(exfalso;simp(disch:=omega) [ea] at I;done)|(exfalso;simp at I;omega)|(simp at I))
   | ((first|refine aH ?_|refine aN ?_);simp(disch:=omega) [ea,f0,f1,f2,f3,f4,f5]))
  refine aH ?_
  simp[hT,f0]
  refine⟨_,_,_,⟨rfl,rfl,rfl⟩,⟨⟨by simp only;omega,fun j bb=>?_,rfl,rfl⟩,by simp[aG,Nat.add_assoc],by simp[aG,Nat.add_assoc],by simp[aG,Nat.add_assoc],by simp only;omega,by simp only;omega,by simp only;omega⟩⟩
  simp only at bb
  simp only[aG]
  repeat rw[if_neg (by omega)])
 exact ⟨a,b,c,ay,e,H⟩
def z5 (dir:Nat) (f:FuncId) (c0:List J) (a:Nat) (A:Option (List J)):Prop:=eR f=none/\∃k,∀(C:Nat->Option (List J)) (n:Nat) (P:Nat->Option fu) (neg fz:Bool) (half:Int),C a=A->fv G (bk Tryz.prog) eR [] (.fn f) (.bool neg:: .bool fz:: .int .i64 half::c0) ⟨C,fun _=>false,n,P⟩=some (.bool (ho dir neg fz half),⟨C,fun _=>false,n+k,P⟩)
def tC (dir:Nat) (g:FuncId):Prop:=eR g=none/\∃k,∀(C:Nat->Option (List J)) (n:Nat) (P:Nat->Option fu) (neg:Bool),fv G (bk Tryz.prog) eR [] (.fn g) [.bool neg] ⟨C,fun _=>false,n,P⟩=some (.bool (vx dir neg),⟨C,fun _=>false,n+k,P⟩)
theorem Yy (a:Nat) (A:Option (List J)):z5 0 119 [] a A:=by
 refine⟨rfl,11,fun C n P neg fz half _=>?_⟩
 obtain⟨v,ay,e,rfl,rfl⟩:=k3 (Φ:=bk Tryz.prog) (G:=G) (tab:=eR) (Y:=[]) (h:=⟨C,fun _=>false,n,P⟩) (args:=[.bool neg,.bool fz,.int .i64 half]) (R:=fun v ay=>v= .bool (ho 0 neg fz half)/\ay=⟨C,fun _=>false,n+11,P⟩) G1 (by
  have I:half<0\/half=0\/0<half:=by omega
  unfold i119
  rcases I with h|h|h
  · have aj:(Z 0<half)=False:=eq_false (by simp only[Z];omega)
    have aq:(half=Z 0)=False:=eq_false (by simp only[Z];omega)
    have aW:(half == Z 0)=false:=by simpa using show half≠Z 0 by simp only[Z];omega
    have bW:ho 0 neg fz half=false:=by
     simp only[ho];rw[decide_eq_false (by omega),decide_eq_false (by omega)];rfl
    rw[bW]
    refine al [1,2,6] fun F=>?_
    simp only[ak]
    intro f1 f2 f6
    simp[a8] at f1 f2 f6
    repeat' (first
     | refine ax ?_
     | ((fail_if_success (refine aQ ?_));(fail_if_success (refine aR ?_));refine aL ?_)
     | ((first|(refine az cz ?_;simp(disch:=omega) [aj,aq,aW,f1,f2,f6];(try(refine⟨by first|decide|rfl,?_⟩)))|(refine aK ?_;simp(disch:=omega) [aj,aq,aW,f1,f2,f6]));(try(refine al [1,2,6] ?_;intro F;simp only[ak];intro ab aa ag;simp(disch:=omega) [aj,aq,aW,f1,f2,f6] at ab aa ag;clear f1 f2 f6;have f1:=ab;have f2:=aa;have f6:=ag;clear ab aa ag)))
     | (refine aJ _ (by simp(disch:=omega) [aj,aq,aW,f1,f2,f6];rfl) (fun I=>?_) (fun I=>?_)<;>first|(exfalso;simp(disch:=omega) [aj,aq,aW] at I;done)|(exfalso;simp at I;omega)|(simp at I))
     | ((first|refine aH ?_|refine aN ?_);simp(disch:=omega) [aj,aq,aW,f1,f2,f6]))
    refine aH ?_
    simp[hT,f6]
  · subst h
    have aj:(Z 0<(0:Int))=False:=eq_false (by decide)
    have aq:((0:Int)=Z 0)=True:=eq_true rfl
    have aW:((0:Int) == Z 0)=true:=rfl
    have bW:ho 0 neg fz 0=fz:=by simp[ho]
    rw[bW]
    cases fz
    · skip
      refine al [1,2,6] fun F=>?_
      simp only[ak]
      intro f1 f2 f6
      simp[a8] at f1 f2 f6
      repeat' (first
       | refine ax ?_
       | ((fail_if_success (refine aQ ?_));(fail_if_success (refine aR ?_));refine aL ?_)
       | ((first|(refine az cz ?_;simp(disch:=omega) [aj,aq,aW,f1,f2,f6];(try(refine⟨by first|decide|rfl,?_⟩)))|(refine aK ?_;simp(disch:=omega) [aj,aq,aW,f1,f2,f6]));(try(refine al [1,2,6] ?_;intro F;simp only[ak];intro ab aa ag;simp(disch:=omega) [aj,aq,aW,f1,f2,f6] at ab aa ag;clear f1 f2 f6;have f1:=ab;have f2:=aa;have f6:=ag;clear ab aa ag)))
       | (refine aJ _ (by simp(disch:=omega) [aj,aq,aW,f1,f2,f6];rfl) (fun I=>?_) (fun I=>?_)<;>first|(exfalso;simp(disch:=omega) [aj,aq,aW] at I;done)|(exfalso;simp at I;omega)|(simp at I))
       | ((first|refine aH ?_|refine aN ?_);simp(disch:=omega) [aj,aq,aW,f1,f2,f6]))
      refine aH ?_
      simp[hT,f6]
    · skip
      refine al [1,2,6] fun F=>?_
      simp only[ak]
      intro f1 f2 f6
      simp[a8] at f1 f2 f6
      repeat' (first
       | refine ax ?_
       | ((fail_if_success (refine aQ ?_));(fail_if_success (refine aR ?_));refine aL ?_)
       | ((first|(refine az cz ?_;simp(disch:=omega) [aj,aq,aW,f1,f2,f6];(try(refine⟨by first|decide|rfl,?_⟩)))|(refine aK ?_;simp(disch:=omega) [aj,aq,aW,f1,f2,f6]));(try(refine al [1,2,6] ?_;intro F;simp only[ak];intro ab aa ag;simp(disch:=omega) [aj,aq,aW,f1,f2,f6] at ab aa ag;clear f1 f2 f6;have f1:=ab;have f2:=aa;have f6:=ag;clear ab aa ag)))
       | (refine aJ _ (by simp(disch:=omega) [aj,aq,aW,f1,f2,f6];rfl) (fun I=>?_) (fun I=>?_)<;>first|(exfalso;simp(disch:=omega) [aj,aq,aW] at I;done)|(exfalso;simp at I;omega)|(simp at I))
       | ((first|refine aH ?_|refine aN ?_);simp(disch:=omega) [aj,aq,aW,f1,f2,f6]))
      refine aH ?_
      simp[hT,f6]
  · have aj:(Z 0<half)=True:=eq_true (by simp only[Z];omega)
    have bW:ho 0 neg fz half=true:=by
     simp only[ho];rw[decide_eq_true h];rfl
    rw[bW]
    refine al [1,2,6] fun F=>?_
    simp only[ak]
    intro f1 f2 f6
    simp[a8] at f1 f2 f6
    repeat' (first
     | refine ax ?_
     | ((fail_if_success (refine aQ ?_));(fail_if_success (refine aR ?_));refine aL ?_)
     | ((first|(refine az cz ?_;simp(disch:=omega) [aj,f1,f2,f6];(try(refine⟨by first|decide|rfl,?_⟩)))|(refine aK ?_;simp(disch:=omega) [aj,f1,f2,f6]));(try(refine al [1,2,6] ?_;intro F;simp only[ak];intro ab aa ag;simp(disch:=omega) [aj,f1,f2,f6] at ab aa ag;clear f1 f2 f6;have f1:=ab;have f2:=aa;have f6:=ag;clear ab aa ag)))
     | (refine aJ _ (by simp(disch:=omega) [aj,f1,f2,f6];rfl) (fun I=>?_) (fun I=>?_)<;>first|(exfalso;simp(disch:=omega) [aj] at I;done)|(exfalso;simp at I;omega)|(simp at I))
     | ((first|refine aH ?_|refine aN ?_);simp(disch:=omega) [aj,f1,f2,f6]))
    refine aH ?_
    simp[hT,f6])
 exact e
theorem Yz (a:Nat) (A:Option (List J)):z5 1 120 [] a A:=by
 refine⟨rfl,4,fun C n P neg fz half _=>?_⟩
 obtain⟨v,ay,e,rfl,rfl⟩:=k3 (Φ:=bk Tryz.prog) (G:=G) (tab:=eR) (Y:=[]) (h:=⟨C,fun _=>false,n,P⟩) (args:=[.bool neg,.bool fz,.int .i64 half]) (R:=fun v ay=>v= .bool (ho 1 neg fz half)/\ay=⟨C,fun _=>false,n+4,P⟩) G2 (by
  have bW:decide (Z 0<=half)=ho 1 neg fz half:=rfl
  unfold i120
  refine al [2,6] fun F=>?_
  simp only[ak]
  intro f2 f6
  simp[a8] at f2 f6
  repeat' (first
   | refine ax ?_
   | ((fail_if_success (refine aQ ?_));(fail_if_success (refine aR ?_));refine aL ?_)
   | ((first|(refine az cz ?_;simp(disch:=omega) [bW,f2,f6];(try(refine⟨by first|decide|rfl,?_⟩)))|(refine aK ?_;simp(disch:=omega) [bW,f2,f6]));(try(refine al [2,6] ?_;intro F;simp only[ak];intro aa ag;simp(disch:=omega) [bW,f2,f6] at aa ag;clear f2 f6;have f2:=aa;have f6:=ag;clear aa ag)))
   | (refine aJ _ (by simp(disch:=omega) [bW,f2,f6];rfl) (fun I=>?_) (fun I=>?_)<;>first|(exfalso;simp(disch:=omega) [bW] at I;done)|(exfalso;simp at I;omega)|(simp at I))
   | ((first|refine aH ?_|refine aN ?_);simp(disch:=omega) [bW,f2,f6]))
  refine aH ?_
  simp[hT,f6,bW])
 exact e
theorem Dw {dir:Nat} {g:FuncId} (bq:tC dir g) (au:∀neg fz half,ho dir neg fz half=vx dir neg) (a:Nat):z5 dir 118 [.ptr a 0 0] a (some [.fn g [] []]):=by
 obtain⟨eo,k,aI⟩:=bq
 refine⟨rfl,5+k,fun C n P neg fz half bF=>?_⟩
 obtain⟨v,ay,e,rfl,rfl⟩:=k3 (Φ:=bk Tryz.prog) (G:=G) (tab:=eR) (Y:=[]) (h:=⟨C,fun _=>false,n,P⟩) (args:=[.bool neg,.bool fz,.int .i64 half,.ptr a 0 0]) (R:=fun v ay=>v= .bool (ho dir neg fz half)/\ay=⟨C,fun _=>false,n+(5+k),P⟩) G0 (by
  rw[au]
  unfold i118
  refine al [0,3,7] fun F=>?_
  simp only[ak]
  intro f0 f3 f7
  simp[a8] at f0 f3 f7
  repeat' (first
   | refine ax ?_
   | ((fail_if_success (refine aQ ?_));(fail_if_success (refine aR ?_));refine aL ?_)
   | ((first|(refine az cz ?_;simp(disch:=omega) [bF,eo,aI,f0,f3,f7];(try(refine⟨by first|decide|rfl,?_⟩)))|(refine aK ?_;simp(disch:=omega) [bF,eo,aI,f0,f3,f7]));(try(refine al [0,3,7] ?_;intro F;simp only[ak];intro U af ar;simp(disch:=omega) [bF,eo,aI,f0,f3,f7] at U af ar;clear f0 f3 f7;have f0:=U;have f3:=af;have f7:=ar;clear U af ar)))
   | (refine aJ _ (by simp(disch:=omega) [bF,eo,aI,f0,f3,f7];rfl) (fun I=>?_) (fun I=>?_)<;>first|(exfalso;simp(disch:=omega) [bF,eo,aI] at I;done)|(exfalso;simp at I;omega)|(simp at I))
   | ((first|refine aH ?_|refine aN ?_);simp(disch:=omega) [bF,eo,aI,f0,f3,f7]))
  refine aH ?_
  simp[hT,f7,Nat.add_assoc])
 exact e
theorem YA:tC 0 113:=⟨rfl,LG []⟩
theorem YB:tC 1 113:=⟨rfl,LG []⟩
theorem LJ:tC 2 114:=⟨rfl,Ys []⟩
theorem LK:tC 3 116:=⟨rfl,Yu []⟩
theorem LL:tC 4 115:=⟨rfl,Yt []⟩
theorem YC {dir:Nat} (bw:dir<5) {h ay:aF} {a b c:Nat} (W:Dv h a b c ay):∃f c0 g q A,((([.fn 119 [] [],.fn 113 [] [],.fn 120 [] [],.fn 113 [] [],.fn 118 [] [.ptr a 0 0],.fn 114 [] [],.fn 118 [] [.ptr b 0 0],.fn 116 [] [],.fn 118 [] [.ptr c 0 0],.fn 115 [] []]:List J).drop (dir*2)).take 2)= [.fn f [] c0,.fn g [] []]/\z5 dir f c0 q A/\tC dir g/\ay.cells q=A/\q<ay.next/\h.next<=q:=by
 have cf:dir=0\/dir=1\/dir=2\/dir=3\/dir=4:=by omega
 have aC:=W.cZ
 rcases cf with rfl|rfl|rfl|rfl|rfl
 · exact ⟨_,_,_,a,_,rfl,Yy a _,YA,rfl,W.cZ.2,W.cZ.1⟩
 · exact ⟨_,_,_,a,_,rfl,Yz a _,YB,rfl,W.cZ.2,W.cZ.1⟩
 · exact ⟨_,_,_,a,_,rfl,Dw LJ (fun _ _ _=>rfl) a,LJ,W.qw,W.cZ.2,W.cZ.1⟩
 · exact ⟨_,_,_,b,_,rfl,Dw LK (fun _ _ _=>rfl) b,LK,W.qx,W.cm.2,W.cm.1⟩
 · exact ⟨_,_,_,c,_,rfl,Dw LL (fun _ _ _=>rfl) c,LL,W.dV,W.lc.2,W.lc.1⟩
end
end
end Go.Proofs.YtcikknajimdjoaaGreatDoor
