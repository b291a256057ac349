/- What the claim needs of the walks, put together by a program (shake.py). -/
import Derived.Test.YtcikknajimdjoaaGreatDoorFpE
set_option maxRecDepth 100000
set_option linter.unusedSimpArgs false
set_option linter.unusedVariables false
set_option linter.unusedSectionVars false
namespace Go.Proofs.YtcikknajimdjoaaGreatDoor
section
set_option maxHeartbeats 8000000
open Go Go.Eng Go.RowKit
theorem Jn (a b:Int):db (b' a != b' b) (a.natAbs*b.natAbs)=a*b:=by
 have bF:=sS a
 have au:=sS b
 generalize a.natAbs=m at*
 generalize b.natAbs=k at*
 generalize b' a=s at*
 generalize b' b=t at*
 subst bF au
 cases s<;>cases t<;>simp[db,Int.neg_mul,Int.mul_neg]
theorem Sm (a:Int) (n:Nat):db (b' a) (a.natAbs*2^n)=a*2^n:=by
 have h:=sS a
 generalize a.natAbs=m at*
 generalize b' a=s at*
 subst h
 cases s<;>simp[db,Int.neg_mul]
end
section
set_option maxHeartbeats 8000000
open Go Go.Eng Go.RowKit
attribute [local simp] bH.m bH.o bH.n bH.g hy fh dG dr dJ evalOp.eq_1 evalOp.eq_2 evalOp.eq_3 evalOp.eq_4 evalOp.eq_5 evalOp.eq_6 evalOp.eq_7 evalOp.eq_8 evalOp.eq_9 evalOp.eq_10 evalOp.eq_11 evalOp.eq_12 evalOp.eq_13 evalOp.eq_14 evalOp.eq_15 evalOp.eq_16 evalOp.eq_17 evalOp.eq_18 evalOp.eq_19 evalOp.eq_20 evalOp.eq_21 evalOp.eq_22 evalOp.eq_23 evalOp.eq_24 evalOp.eq_25 evalOp.eq_27 evalOp.eq_28 evalOp.eq_29 kl bn.cu dq aG aF.new a8 J.cells J.dp J.e7 J.ft il iq im ir iv iu jK jL jM gY gZ cut partOf bound elems jO jP jQ jR jS jT jU jV jW jX jY jZ h1 j0 j1 j2 j3 j4 j5 j6 j7 j8 j9 j_ j' ka kb kc kd ke kf kg kh ki kj kk ff e8 e1 gi iw hA aF.close aF.set h3 km kn ko jN hB gD gq gJ gr hX gu gK hY hZ h0 gf gg gh gd ix bI hU iy hV iz iA fY iB fw iC iD iE gT jJ iF iG iH iI iJ iK iL iM iN iO iP iQ iR iS iT iU iV iW iX hf iY iZ i_ i' ja jb jc jd je jf jg jh ji jj jk
attribute [local simp high] jG jH jI jl jm jn jo jq jr js jt ju jv jw jx jy jz jA jB jC jD jE jF
attribute [local simp] aS List.getElem?_cons_zero List.getElem?_cons_succ fa eh gl Nat.mod_eq_of_lt kH kI kJ kK gL kL kM kN
section
attribute [local irreducible] cQ
attribute [local simp] ek eL du Jb Jc Jd Je Jf Jg Jh Ji Jj Jk
def y_ (k:Nat) (cs:List Nat) (i:Nat) (s:bg):Prop:=∃e,s.F 29=cH (ai (nI k cs i)) e
theorem Sn {k:Nat} {cs:List Nat} (a6:cs.length=5) (aI:k<=200000) (aP:∀x∈cs,(ai x).length<=1000000):∀i,i<5->(∀e,hi [cH (ai (nI k cs i)) e,aw (a5 cs i*2^(32*k*i))]=some (aw (nI k cs (i+1))))/\lY [aw (a5 cs i),bp (32*k*i)]=some (aw (a5 cs i*2^(32*k*i))):=by
 have au:∀i,i<=5->(ai (nI k cs i)).length<=i*4000000:=by
  intro i
  induction i with
  | zero=>intro _;simp[nI,eX]
  | succ i b_=>
    intro an
    have ae:=b_ (by omega)
    have h2:=aP _ (BE (l:=cs) (i:=i) (by omega))
    have aO:=hC (a5 cs i) (2^(32*k*i))
    have a2:(ai (2^(32*k*i))).length<=k*i+1:=c8.2 (by rw[show 32*k*i=32*(k*i) by rw[Nat.mul_assoc],<-ll,eQ];have:=kO (k*i);omega)
    have cf:=k5 (nI k cs i) (a5 cs i*2^(32*k*i))
    have dS:k*i<=200000*5:=Nat.mul_le_mul aI (by omega)
    show (ai (nI k cs i+a5 cs i*2^(32*k*i))).length<=_
    omega
 intro i an
 have ae:=au i (by omega)
 have h2:=aP _ (BE (l:=cs) (i:=i) (by omega))
 have aO:=hC (a5 cs i) (2^(32*k*i))
 have a2:(ai (2^(32*k*i))).length<=k*i+1:=c8.2 (by rw[show 32*k*i=32*(k*i) by rw[Nat.mul_assoc],<-ll,eQ];have:=kO (k*i);omega)
 have dS:k*i<=200000*5:=Nat.mul_le_mul aI (by omega)
 have lf:32*k*i=32*(k*i):=Nat.mul_assoc ..
 exact ⟨fun e=>ny (by omega) (by omega),rq (by omega) (by omega)⟩
theorem So:bl Tryz.prog G 132 w5:=by
 refine Sj fun N b_=>?_
 refine cJ mixed (Sk b_) G_ fun z aV=>?_
 obtain⟨a,b⟩:=z
 obtain⟨⟨cZ,cm⟩,eO⟩:=aV
 simp only at cZ cm eO|-
 obtain⟨L,a_⟩:∃L,L=(ai a).length:=⟨_,rfl⟩
 obtain⟨M,eB⟩:∃M,M=(ai b).length:=⟨_,rfl⟩
 obtain⟨n,aC⟩:∃n,n=max L M:=⟨_,rfl⟩
 have bz:=yz L M
 have b4:=um L M
 rw[<-aC] at bz
 rw[<-a_] at eO
 rw[<-eB] at eO
 have aU:a<aE n:=c8.1 (by omega)
 have a9:b<aE n:=c8.1 (by omega)
 by_cases fM:min L M<7
 · have t:=I7 (a,b) ⟨by simp only;omega,by simp only;omega⟩ (args:=[aw a,aw b]) (by simp)
   simp only at t
   generalize a*b=c at*
   unfold i132
   refine al [0,1,4,5,6,7,8,9,10,11,12,13,14,15,16,17,18,19,20,21,22,23,24,25,26,27,28,29,30,31,42,97,131,132,133,134] fun F=>?_
   simp only[ak]
   intro f0 f1 f4 f5 f6 f7 f8 f9 f10 f11 f12 f13 f14 f15 f16 f17 f18 f19 f20 f21 f22 f23 f24 f25 f26 f27 f28 f29 f30 f31 f42 f97 f131 f132 f133 f134
   simp[a8] at f0 f1 f4 f5 f6 f7 f8 f9 f10 f11 f12 f13 f14 f15 f16 f17 f18 f19 f20 f21 f22 f23 f24 f25 f26 f27 f28 f29 f30 f31 f42 f97 f131 f132 f133 f134
   repeat' (first
    | refine ax ?_
    | ((fail_if_success (refine aQ ?_));(fail_if_success (refine aR ?_));refine aL ?_)
    | ((first|(refine az cz ?_;simp(disch:=omega) [<-a_,<-eB,bz,b4,fM,t,f0,f1,f4,f5,f6,f7,f8,f9,f10,f11,f12,f13,f14,f15,f16,f17,f18,f19,f20,f21,f22,f23,f24,f25,f26,f27,f28,f29,f30,f31,f42,f97,f131,f132,f133,f134];(try(refine⟨by first|decide|rfl,?_⟩)))|(refine aK ?_;simp(disch:=omega) [<-a_,<-eB,bz,b4,fM,t,f0,f1,f4,f5,f6,f7,f8,f9,f10,f11,f12,f13,f14,f15,f16,f17,f18,f19,f20,f21,f22,f23,f24,f25,f26,f27,f28,f29,f30,f31,f42,f97,f131,f132,f133,f134]));(try(refine al [0,1,4,5,6,7,8,9,10,11,12,13,14,15,16,17,18,19,20,21,22,23,24,25,26,27,28,29,30,31,42,97,131,132,133,134] ?_;intro F;simp only[ak];intro U ab ad ah ag ar ao aA aB bA aX aZ bs bE bQ bx bP dX bO dx cK dY cL ch c_ c5 ks en cU fE g5 ph fF fG fH fI;simp(disch:=omega) [<-a_,<-eB,bz,b4,fM,t,f0,f1,f4,f5,f6,f7,f8,f9,f10,f11,f12,f13,f14,f15,f16,f17,f18,f19,f20,f21,f22,f23,f24,f25,f26,f27,f28,f29,f30,f31,f42,f97,f131,f132,f133,f134] at U ab ad ah ag ar ao aA aB bA aX aZ bs bE bQ bx bP dX bO dx cK dY cL ch c_ c5 ks en cU fE g5 ph fF fG fH fI;clear f0 f1 f4 f5 f6 f7 f8 f9 f10 f11 f12 f13 f14 f15 f16 f17 f18 f19 f20 f21 f22 f23 f24 f25 f26 f27 f28 f29 f30 f31 f42 f97 f131 f132 f133 f134;have f0:=U;have f1:=ab;have f4:=ad;have f5:=ah;have f6:=ag;have f7:=ar;have f8:=ao;have f9:=aA;have f10:=aB;have f11:=bA;have f12:=aX;have f13:=aZ;have f14:=bs;have f15:=bE;have f16:=bQ;have f17:=bx;have f18:=bP;have f19:=dX;have f20:=bO;have f21:=dx;have f22:=cK;have f23:=dY;have f24:=cL;have f25:=ch;have f26:=c_;have f27:=c5;have f28:=ks;have f29:=en;have f30:=cU;have f31:=fE;have f42:=g5;have f97:=ph;have f131:=fF;have f132:=fG;have f133:=fH;have f134:=fI;clear U ab ad ah ag ar ao aA aB bA aX aZ bs bE bQ bx bP dX bO dx cK dY cL ch c_ c5 ks en cU fE g5 ph fF fG fH fI)))
    | (refine aJ _ (by simp(disch:=omega) [<-a_,<-eB,bz,b4,fM,t,f0,f1,f4,f5,f6,f7,f8,f9,f10,f11,f12,f13,f14,f15,f16,f17,f18,f19,f20,f21,f22,f23,f24,f25,f26,f27,f28,f29,f30,f31,f42,f97,f131,f132,f133,f134];rfl) (fun I=>?_) (fun I=>?_)<;>first|(exfalso;simp(disch:=omega) [<-a_,<-eB,bz,b4,fM,t] at I;done)|(exfalso;simp at I;omega)|(simp at I))
    | ((first|refine aH ?_|refine aN ?_);simp(disch:=omega) [<-a_,<-eB,bz,b4,fM,t,f0,f1,f4,f5,f6,f7,f8,f9,f10,f11,f12,f13,f14,f15,f16,f17,f18,f19,f20,f21,f22,f23,f24,f25,f26,f27,f28,f29,f30,f31,f42,f97,f131,f132,f133,f134]))
 · obtain⟨k,aI⟩:∃k,k=(n+2)/3:=⟨_,rfl⟩
   have mC:k+1<n:=by omega
   have lS:k<=200000:=by omega
   have y':∀x,x<aE n->x=x%aE k+aE k*(x%aE (2*k)/aE k+aE k*(x%aE n/aE (2*k)))/\(ai (x%aE k)).length<=k/\(ai (x%aE (2*k)/aE k)).length<=k/\(ai (x%aE n/aE (2*k))).length<=k:=fun x av=>by
    rw[Nat.mod_eq_of_lt av]
    refine⟨?_,c8.2 (Nat.mod_lt _ (kO k)),c8.2 ?_,c8.2 ?_⟩
    · rw[show 2*k=k+k by omega,hg,<-Nat.div_div_eq_div_mul,Nat.mod_mul_right_div_self,Nat.mod_add_div,Nat.mod_add_div]
    · rw[show 2*k=k+k by omega,hg,Nat.mod_mul_right_div_self];exact Nat.mod_lt _ (kO k)
    · rw[Nat.div_lt_iff_lt_mul (kO _),<-hg]
      exact Nat.lt_of_lt_of_le av (mS (by omega))
   have eT:=fun(h:aF) p q ae h2 aO a2 cf=>Jl N [] h (a:=a) (k:=k) (n:=n) (p:=p) (q:=q) ae h2 aO a2 cf (by omega) (by omega) (by omega)
   have za:=fun(h:aF) p q ae h2 aO a2 cf=>Jl N [] h (a:=b) (k:=k) (n:=n) (p:=p) (q:=q) ae h2 aO a2 cf (by omega) (by omega) (by omega)
   have main:∃x0 x1 x2 y0 y1 ec a1 am cP b1 Cq cN ct er ej dg cV cY dF dK:Nat,∃w7 uT:Bool,a%aE k=x0/\a%aE (2*k)/aE k=x1/\a%aE n/aE (2*k)=x2/\b%aE k=y0/\b%aE (2*k)/aE k=y1/\b%aE n/aE (2*k)=ec/\
    uP [.agg [aw x0,aw x1,aw x2]]=some (.cb [aw a1,aw am,aw cP,.bool w7])/\uP [.agg [aw y0,aw y1,aw ec]]=some (.cb [aw b1,aw Cq,aw cN,.bool uT])/\
    pg N [aw x0,aw y0]=some (aw dg)/\pg N [aw x2,aw ec]=some (aw dK)/\pg N [aw a1,aw b1]=some (aw ct)/\pg N [aw am,aw Cq]=some (aw er)/\pg N [aw cP,aw cN]=some (aw ej)/\
    (∃E O u v1 v2 pf v4 qB v6 rz rA rB bK cr:Nat,hi [aw ct,aw er]=some (aw bK)/\lL [aw ct,aw er]=some (aw cr)/\((w7=uT/\bK=E/\cr=O)\/(w7≠uT/\cr=E/\bK=O))/\mX [aw E,bp 1]=some (aw v4)/\mX [aw O,bp 1]=some (aw pf)/\hi [aw dg,aw dK]=some (aw rB)/\lL [aw v4,aw rB]=some (aw cY)/\
      lY [aw cY,bp 2]=some (aw rz)/\lY [aw dK,bp 4]=some (aw rA)/\hi [aw rz,aw rA]=some (aw v6)/\hi [aw dg,aw v6]=some (aw qB)/\lL [aw ej,aw qB]=some (aw u)/\mX [aw u,bp 1]=some (aw v2)/\lL [aw v2,aw pf]=some (aw v1)/\s0 [aw v1]=some (aw dF)/\lL [aw pf,aw dF]=some (aw cV))/\
    nI k [dg,cV,cY,dF,dK] 5=a*b/\∀x∈ [dg,cV,cY,dF,dK],(ai x).length<=1000000:=by
    obtain⟨Sp,Sq,Sr,Ss⟩:=y' a aU
    obtain⟨St,Su,Sv,Sw⟩:=y' b a9
    clear y' eT za bz b4 a_ eB
    generalize a%aE k=x0 at*
    generalize a%aE (2*k)/aE k=x1 at*
    generalize a%aE n/aE (2*k)=x2 at*
    generalize b%aE k=y0 at*
    generalize b%aE (2*k)/aE k=y1 at*
    generalize b%aE n/aE (2*k)=ec at*
    have fin:=Sh k x0 x1 x2 y0 y1 ec
    rw[<-Sp,<-St] at fin
    obtain⟨E,O,ct,er,ej,dg,cV,cY,dF,dK,u,yK,uR,pP,ia,pe,aP,bw,h2,hu,Co,aO,ae,uS,ab,aa,af⟩:=Se x0 x1 x2 y0 y1 ec
    obtain⟨sY,ZW,ZX⟩:=Jm x0 x1 x2 Sq Sr Ss
    obtain⟨sZ,ZY,ZZ⟩:=Jm y0 y1 ec Su Sv Sw
    have b1:=hC (x0+x2+x1) (y0+ec+y1)
    have eW:=hC (x0+(x1*2^1+x2*2^2)) (y0+(y1*2^1+ec*2^2))
    rw[<-yK] at b1
    rw[<-pP] at eW
    have two:(ai 2).length<=1:=c8.2 (by rw[pa];decide)
    have ba:=hC 2 ct
    have br:=k5 (2*ct) ej
    have aV:(ai (2*ct+ej)).length<=1000000:=by omega
    rw[<-ia,<-ab,<-aa,<-af,<-pe] at fin
    obtain⟨v1,v2,pf,v4,qB,v6,rz,rA,rB,cn,eg,gQ⟩:=Sg aV uS h2 hu Co aO ae
    refine⟨x0,x1,x2,y0,y1,ec,_,_,_,_,_,_,ct,er,ej,dg,cV,cY,dF,dK,_,_,rfl,rfl,rfl,rfl,rfl,rfl,
     Ja (x0,x1,x2) ⟨by show (ai x0).length<=_;omega,by show (ai x1).length<=_;omega,by show (ai x2).length<=_;omega⟩ (by simp),Ja (y0,y1,ec) ⟨by show (ai y0).length<=_;omega,by show (ai y1).length<=_;omega,by show (ai ec).length<=_;omega⟩ (by simp),?_,?_,?_,?_,?_,⟨E,O,u,v1,v2,pf,v4,qB,v6,rz,rA,rB,_,_,cn,eg,?_,gQ⟩,fin,fun x av=>?_⟩
    · rw[ia];exact w6 (x0,y0) ⟨⟨by simp only;omega,by simp only;omega⟩,by simp only;omega⟩ (by simp)
    · rw[pe];exact w6 (x2,ec) ⟨⟨by simp only;omega,by simp only;omega⟩,by simp only;omega⟩ (by simp)
    · rw[yK];exact w6 (x0+x2+x1,y0+ec+y1) ⟨⟨by simp only;omega,by simp only;omega⟩,by simp only;omega⟩ (by simp)
    · rw[uR];exact w6 (m0 x0 x1 x2,m0 y0 y1 ec) ⟨⟨by simp only;omega,by simp only;omega⟩,by simp only;omega⟩ (by simp)
    · rw[pP];exact w6 (x0+(x1*2^1+x2*2^2),y0+(y1*2^1+ec*2^2)) ⟨⟨by simp only;omega,by simp only;omega⟩,by simp only;omega⟩ (by simp)
    · by_cases h:decide (x0+x2<x1)=decide (y0+ec<y1)
      · exact .inl ⟨h,aP h⟩
      · exact .inr ⟨h,bw h⟩
    · have pV:x<=2*ct+ej:=uS x (by simp only[List.mem_cons,List.not_mem_nil,or_false] at av|-;rcases av with rfl|rfl|rfl|rfl|rfl<;>simp)
      exact Nat.le_trans (f_ pV) aV
   obtain⟨x0,x1,x2,y0,y1,ec,a1,am,cP,b1,Cq,cN,ct,er,ej,dg,cV,cY,dF,dK,w7,uT,cc,aj,aq,aW,bW,ea,oz,oA,t0,t4,t1,t2,t3,⟨E,O,u,v1,v2,pf,v4,qB,v6,rz,rA,rB,bK,cr,s1,s2,Sx,b3,ed,ca,hk,k7,hl,oB,oC,nc,lo,oD,oE,oF⟩,fin,dC⟩:=main
   have mc:=Sn (k:=k) (cs:=[dg,cV,cY,dF,dK]) rfl lS dC
   rw[cc,aj,aq] at eT
   rw[aW,bW,ea] at za
   clear cc aj aq aW bW ea y' aU a9 dC
   have eP:(n+2)/3=k:=aI.symm
   have Jo:∀i,i<5->IntKind.i64.wrap (Z 32*Z k)=Z (32*k)/\IntKind.i64.wrap (Z (32*k)*Z i)=Z (32*k*i):=fun i an=>⟨sB (by omega),sB (by have:32*k*i<=32*200000*5:=Nat.mul_le_mul (Nat.mul_le_mul_left 32 lS) (by omega);omega)⟩
   have nK:=eT ⟨aG (aG (aG (aG (fun _=>none) 6 (some [bp 0])) 6 (some [bp n])) 17 (some [bp 0])) 17 (some [bp k]),fun _=>false,31,fun _=>none⟩ 17 6 (by simp[aG]) (by simp[aG]) (by show 17<31;decide) (by show 6<31;decide) rfl
   have nL:=za ⟨aG (aG (aG (aG (aG (aG (fun _=>none) 6 (some [bp 0])) 6 (some [bp n])) 17 (some [bp 0])) 17 (some [bp k])) 31 (some [.agg [.sl [] true,.sl [] true,.sl [] true]])) 31 (some [.agg [aw x0,aw x1,aw x2]]),fun _=>false,47,fun _=>none⟩ 17 6 (by simp[aG]) (by simp[aG]) (by show 17<47;decide) (by show 6<47;decide) rfl
   dsimp only at nK nL
   clear eT za
   rw[<-fin]
   unfold i132
   rcases Sx with⟨ae,h2,aO⟩|⟨ae,h2,aO⟩
   · subst ae h2 aO
     refine al [0,1,4,5,6,7,8,9,10,11,12,13,14,15,16,17,18,19,20,21,22,23,24,25,26,27,28,29,30,31,42,97,131,132,133,134] fun F=>?_
     simp only[ak]
     intro f0 f1 f4 f5 f6 f7 f8 f9 f10 f11 f12 f13 f14 f15 f16 f17 f18 f19 f20 f21 f22 f23 f24 f25 f26 f27 f28 f29 f30 f31 f42 f97 f131 f132 f133 f134
     simp[a8] at f0 f1 f4 f5 f6 f7 f8 f9 f10 f11 f12 f13 f14 f15 f16 f17 f18 f19 f20 f21 f22 f23 f24 f25 f26 f27 f28 f29 f30 f31 f42 f97 f131 f132 f133 f134
     repeat' (first
      | refine ax ?_
      | ((fail_if_success (refine aQ ?_));(fail_if_success (refine aR ?_));refine aL ?_)
      | ((first|(refine az cz ?_;simp(disch:=omega) [<-a_,<-eB,bz,b4,fM,eP,nK,nL,oz,oA,t0,t4,t1,t2,t3,s1,s2,b3,ed,ca,hk,k7,hl,oB,oC,nc,lo,oD,oE,oF,l0,l1,l2,f0,f1,f4,f5,f6,f7,f8,f9,f10,f11,f12,f13,f14,f15,f16,f17,f18,f19,f20,f21,f22,f23,f24,f25,f26,f27,f28,f29,f30,f31,f42,f97,f131,f132,f133,f134];(try(refine⟨by first|decide|rfl,?_⟩)))|(refine aK ?_;simp(disch:=omega) [<-a_,<-eB,bz,b4,fM,eP,nK,nL,oz,oA,t0,t4,t1,t2,t3,s1,s2,b3,ed,ca,hk,k7,hl,oB,oC,nc,lo,oD,oE,oF,l0,l1,l2,f0,f1,f4,f5,f6,f7,f8,f9,f10,f11,f12,f13,f14,f15,f16,f17,f18,f19,f20,f21,f22,f23,f24,f25,f26,f27,f28,f29,f30,f31,f42,f97,f131,f132,f133,f134]));(try(refine al [0,1,4,5,6,7,8,9,10,11,12,13,14,15,16,17,18,19,20,21,22,23,24,25,26,27,28,29,30,31,42,97,131,132,133,134] ?_;intro F;simp only[ak];intro U ab ad ah ag ar ao aA aB bA aX aZ bs bE bQ bx bP dX bO dx cK dY cL ch c_ c5 ks en cU fE g5 ph fF fG fH fI;simp(disch:=omega) [<-a_,<-eB,bz,b4,fM,eP,nK,nL,oz,oA,t0,t4,t1,t2,t3,s1,s2,b3,ed,ca,hk,k7,hl,oB,oC,nc,lo,oD,oE,oF,l0,l1,l2,f0,f1,f4,f5,f6,f7,f8,f9,f10,f11,f12,f13,f14,f15,f16,f17,f18,f19,f20,f21,f22,f23,f24,f25,f26,f27,f28,f29,f30,f31,f42,f97,f131,f132,f133,f134] at U ab ad ah ag ar ao aA aB bA aX aZ bs bE bQ bx bP dX bO dx cK dY cL ch c_ c5 ks en cU fE g5 ph fF fG fH fI;clear f0 f1 f4 f5 f6 f7 f8 f9 f10 f11 f12 f13 f14 f15 f16 f17 f18 f19 f20 f21 f22 f23 f24 f25 f26 f27 f28 f29 f30 f31 f42 f97 f131 f132 f133 f134;have f0:=U;have f1:=ab;have f4:=ad;have f5:=ah;have f6:=ag;have f7:=ar;have f8:=ao;have f9:=aA;have f10:=aB;have f11:=bA;have f12:=aX;have f13:=aZ;have f14:=bs;have f15:=bE;have f16:=bQ;have f17:=bx;have f18:=bP;have f19:=dX;have f20:=bO;have f21:=dx;have f22:=cK;have f23:=dY;have f24:=cL;have f25:=ch;have f26:=c_;have f27:=c5;have f28:=ks;have f29:=en;have f30:=cU;have f31:=fE;have f42:=g5;have f97:=ph;have f131:=fF;have f132:=fG;have f133:=fH;have f134:=fI;clear U ab ad ah ag ar ao aA aB bA aX aZ bs bE bQ bx bP dX bO dx cK dY cL ch c_ c5 ks en cU fE g5 ph fF fG fH fI)))
      | (refine aJ _ (by simp(disch:=omega) [<-a_,<-eB,bz,b4,fM,eP,nK,nL,oz,oA,t0,t4,t1,t2,t3,s1,s2,b3,ed,ca,hk,k7,hl,oB,oC,nc,lo,oD,oE,oF,l0,l1,l2,f0,f1,f4,f5,f6,f7,f8,f9,f10,f11,f12,f13,f14,f15,f16,f17,f18,f19,f20,f21,f22,f23,f24,f25,f26,f27,f28,f29,f30,f31,f42,f97,f131,f132,f133,f134];rfl) (fun I=>?_) (fun I=>?_)<;>first|(exfalso;simp(disch:=omega) [<-a_,<-eB,bz,b4,fM,eP,nK,nL,oz,oA,t0,t4,t1,t2,t3,s1,s2,b3,ed,ca,hk,k7,hl,oB,oC,nc,lo,oD,oE,oF,l0,l1,l2] at I;done)|(exfalso;simp at I;omega)|(simp at I))
      | ((first|refine aH ?_|refine aN ?_);simp(disch:=omega) [<-a_,<-eB,bz,b4,fM,eP,nK,nL,oz,oA,t0,t4,t1,t2,t3,s1,s2,b3,ed,ca,hk,k7,hl,oB,oC,nc,lo,oD,oE,oF,l0,l1,l2,f0,f1,f4,f5,f6,f7,f8,f9,f10,f11,f12,f13,f14,f15,f16,f17,f18,f19,f20,f21,f22,f23,f24,f25,f26,f27,f28,f29,f30,f31,f42,f97,f131,f132,f133,f134]))
     generalize Cr: [aw dg,aw cV,aw cY,aw dF,aw dK]=Cs at*
     have wm:∀i,i<5->Cs[i]? =some (aw (a5 [dg,cV,cY,dF,dK] i)):=fun i an=>by
      rw[<-Cr]
      rcases show i=0\/i=1\/i=2\/i=3\/i=4 by omega with rfl|rfl|rfl|rfl|rfl<;>rfl
     generalize qe: [dg,cV,cY,dF,dK]=cs at*
     refine o8 5 (fun i s=>y_ k cs i s/\s.F 133=bp i/\s.h.cells 17=some [bp k]) (y_ k cs 5) (fun _=>False) ?_ ?_ ?_ (fun _ _ h=>h.elim)
     · exact ⟨⟨true,by rw[nI,eX];exact f29⟩,f133,by simp[aG]⟩
     · rintro i s an s5 ⟨⟨e,s6⟩,Ct,nM⟩
       have aI:=s5
       replace f6:=(aI 6 rfl).trans f6;replace f131:=(aI 131 rfl).trans f131;replace f132:=(aI 132 rfl).trans f132
       clear f29 f133 s5
       have f29:=s6
       have f133:=Ct
       refine al [6,29,30,31,131,132,133,134] ?_
       intro F
       simp only[ak]
       intro ag en cU fE fF fG fH fI
       try simp[aS,f6,f29,f131,f132,f133] at ag en cU fE fF fG fH fI
       clear f6 f29 f131 f132 f133
       have f6:=ag
       have f29:=en
       have f30:=cU
       have f31:=fE
       have f131:=fF
       have f132:=fG
       have f133:=fH
       have f134:=fI
       clear ag en cU fE fF fG fH fI
       by_cases cf:i<5
       · have g6:(Z i<(5:Int))=True:=eq_true (by simp only[Z];omega)
         have ge:=wm i cf
         obtain⟨ck,dD⟩:=mc i cf
         have ck:=ck e
         obtain⟨eM,eN⟩:=Jo i cf
         have nN:IntKind.i64.wrap (Z i+Z 1)=Z (i+1):=fa (by omega)
         generalize a5 cs i=ci at*
         generalize 32*k*i=Cu at*
         generalize ci*2^Cu=Sy at*
         repeat' (first
          | refine ax ?_
          | ((fail_if_success (refine aQ ?_));(fail_if_success (refine aR ?_));refine aL ?_)
          | ((first|(refine az cz ?_;simp(disch:=omega) [g6,ge,ck,dD,eM,eN,nM,cf,nN,f6,f29,f30,f31,f131,f132,f133,f134];(try(refine⟨by first|decide|rfl,?_⟩)))|(refine aK ?_;simp(disch:=omega) [g6,ge,ck,dD,eM,eN,nM,cf,nN,f6,f29,f30,f31,f131,f132,f133,f134]));(try(refine al [6,29,30,31,131,132,133,134] ?_;intro F;simp only[ak];intro ag en cU fE fF fG fH fI;simp(disch:=omega) [g6,ge,ck,dD,eM,eN,nM,cf,nN,f6,f29,f30,f31,f131,f132,f133,f134] at ag en cU fE fF fG fH fI;clear f6 f29 f30 f31 f131 f132 f133 f134;have f6:=ag;have f29:=en;have f30:=cU;have f31:=fE;have f131:=fF;have f132:=fG;have f133:=fH;have f134:=fI;clear ag en cU fE fF fG fH fI)))
          | (refine aJ _ (by simp(disch:=omega) [g6,ge,ck,dD,eM,eN,nM,cf,nN,f6,f29,f30,f31,f131,f132,f133,f134];rfl) (fun I=>?_) (fun I=>?_)<;>first|(exfalso;simp(disch:=omega) [g6,ge,ck,dD,eM,eN,nM,cf,nN] at I;done)|(exfalso;simp at I;omega)|(simp at I))
          | ((first|refine aH ?_|refine aN ?_);simp(disch:=omega) [g6,ge,ck,dD,eM,eN,nM,cf,nN,f6,f29,f30,f31,f131,f132,f133,f134]))
         exact ⟨false,f29⟩
       · have g6:(Z i<(5:Int))=False:=eq_false (by simp only[Z];omega)
         obtain rfl:i=5:=by omega
         repeat' (first
          | refine ax ?_
          | ((fail_if_success (refine aQ ?_));(fail_if_success (refine aR ?_));refine aL ?_)
          | ((first|(refine az cz ?_;simp(disch:=omega) [g6,f6,f29,f30,f31,f131,f132,f133,f134];(try(refine⟨by first|decide|rfl,?_⟩)))|(refine aK ?_;simp(disch:=omega) [g6,f6,f29,f30,f31,f131,f132,f133,f134]));(try(refine al [6,29,30,31,131,132,133,134] ?_;intro F;simp only[ak];intro ag en cU fE fF fG fH fI;simp(disch:=omega) [g6,f6,f29,f30,f31,f131,f132,f133,f134] at ag en cU fE fF fG fH fI;clear f6 f29 f30 f31 f131 f132 f133 f134;have f6:=ag;have f29:=en;have f30:=cU;have f31:=fE;have f131:=fF;have f132:=fG;have f133:=fH;have f134:=fI;clear ag en cU fE fF fG fH fI)))
          | (refine aJ _ (by simp(disch:=omega) [g6,f6,f29,f30,f31,f131,f132,f133,f134];rfl) (fun I=>?_) (fun I=>?_)<;>first|(exfalso;simp(disch:=omega) [g6] at I;done)|(exfalso;simp at I;omega)|(simp at I))
          | ((first|refine aH ?_|refine aN ?_);simp(disch:=omega) [g6,f6,f29,f30,f31,f131,f132,f133,f134]))
         exact ⟨e,f29⟩
     · rintro s s5 ⟨e,s6⟩
       clear f29 f133
       have f29:=s6
       refine al [4,29] ?_
       intro F
       simp only[ak]
       intro ad en
       try simp[aS,f29] at ad en
       clear f29
       have f4:=ad
       have f29:=en
       clear ad en
       repeat' (first
        | refine ax ?_
        | ((fail_if_success (refine aQ ?_));(fail_if_success (refine aR ?_));refine aL ?_)
        | ((first|(refine az cz ?_;simp(disch:=omega) [f4,f29];(try(refine⟨by first|decide|rfl,?_⟩)))|(refine aK ?_;simp(disch:=omega) [f4,f29]));(try(refine al [4,29] ?_;intro F;simp only[ak];intro ad en;simp(disch:=omega) [f4,f29] at ad en;clear f4 f29;have f4:=ad;have f29:=en;clear ad en)))
        | (refine aJ _ (by simp(disch:=omega) [f4,f29];rfl) (fun I=>?_) (fun I=>?_)<;>first|(exfalso;simp(disch:=omega) at I;done)|(exfalso;simp at I;omega)|(simp at I))
        | ((first|refine aH ?_|refine aN ?_);simp(disch:=omega) [f4,f29]))
   · subst h2 aO
     have au:(w7 == uT)=false:=by simpa using ae
     refine al [0,1,4,5,6,7,8,9,10,11,12,13,14,15,16,17,18,19,20,21,22,23,24,25,26,27,28,29,30,31,42,97,131,132,133,134] fun F=>?_
     simp only[ak]
     intro f0 f1 f4 f5 f6 f7 f8 f9 f10 f11 f12 f13 f14 f15 f16 f17 f18 f19 f20 f21 f22 f23 f24 f25 f26 f27 f28 f29 f30 f31 f42 f97 f131 f132 f133 f134
     simp[a8] at f0 f1 f4 f5 f6 f7 f8 f9 f10 f11 f12 f13 f14 f15 f16 f17 f18 f19 f20 f21 f22 f23 f24 f25 f26 f27 f28 f29 f30 f31 f42 f97 f131 f132 f133 f134
     repeat' (first
      | refine ax ?_
      | ((fail_if_success (refine aQ ?_));(fail_if_success (refine aR ?_));refine aL ?_)
      | ((first|(refine az cz ?_;simp(disch:=omega) [<-a_,<-eB,bz,b4,fM,au,eP,nK,nL,oz,oA,t0,t4,t1,t2,t3,s1,s2,b3,ed,ca,hk,k7,hl,oB,oC,nc,lo,oD,oE,oF,l0,l1,l2,f0,f1,f4,f5,f6,f7,f8,f9,f10,f11,f12,f13,f14,f15,f16,f17,f18,f19,f20,f21,f22,f23,f24,f25,f26,f27,f28,f29,f30,f31,f42,f97,f131,f132,f133,f134];(try(refine⟨by first|decide|rfl,?_⟩)))|(refine aK ?_;simp(disch:=omega) [<-a_,<-eB,bz,b4,fM,au,eP,nK,nL,oz,oA,t0,t4,t1,t2,t3,s1,s2,b3,ed,ca,hk,k7,hl,oB,oC,nc,lo,oD,oE,oF,l0,l1,l2,f0,f1,f4,f5,f6,f7,f8,f9,f10,f11,f12,f13,f14,f15,f16,f17,f18,f19,f20,f21,f22,f23,f24,f25,f26,f27,f28,f29,f30,f31,f42,f97,f131,f132,f133,f134]));(try(refine al [0,1,4,5,6,7,8,9,10,11,12,13,14,15,16,17,18,19,20,21,22,23,24,25,26,27,28,29,30,31,42,97,131,132,133,134] ?_;intro F;simp only[ak];intro U ab ad ah ag ar ao aA aB bA aX aZ bs bE bQ bx bP dX bO dx cK dY cL ch c_ c5 ks en cU fE g5 ph fF fG fH fI;simp(disch:=omega) [<-a_,<-eB,bz,b4,fM,au,eP,nK,nL,oz,oA,t0,t4,t1,t2,t3,s1,s2,b3,ed,ca,hk,k7,hl,oB,oC,nc,lo,oD,oE,oF,l0,l1,l2,f0,f1,f4,f5,f6,f7,f8,f9,f10,f11,f12,f13,f14,f15,f16,f17,f18,f19,f20,f21,f22,f23,f24,f25,f26,f27,f28,f29,f30,f31,f42,f97,f131,f132,f133,f134] at U ab ad ah ag ar ao aA aB bA aX aZ bs bE bQ bx bP dX bO dx cK dY cL ch c_ c5 ks en cU fE g5 ph fF fG fH fI;clear f0 f1 f4 f5 f6 f7 f8 f9 f10 f11 f12 f13 f14 f15 f16 f17 f18 f19 f20 f21 f22 f23 f24 f25 f26 f27 f28 f29 f30 f31 f42 f97 f131 f132 f133 f134;have f0:=U;have f1:=ab;have f4:=ad;have f5:=ah;have f6:=ag;have f7:=ar;have f8:=ao;have f9:=aA;have f10:=aB;have f11:=bA;have f12:=aX;have f13:=aZ;have f14:=bs;have f15:=bE;have f16:=bQ;have f17:=bx;have f18:=bP;have f19:=dX;have f20:=bO;have f21:=dx;have f22:=cK;have f23:=dY;have f24:=cL;have f25:=ch;have f26:=c_;have f27:=c5;have f28:=ks;have f29:=en;have f30:=cU;have f31:=fE;have f42:=g5;have f97:=ph;have f131:=fF;have f132:=fG;have f133:=fH;have f134:=fI;clear U ab ad ah ag ar ao aA aB bA aX aZ bs bE bQ bx bP dX bO dx cK dY cL ch c_ c5 ks en cU fE g5 ph fF fG fH fI)))
      | (refine aJ _ (by simp(disch:=omega) [<-a_,<-eB,bz,b4,fM,au,eP,nK,nL,oz,oA,t0,t4,t1,t2,t3,s1,s2,b3,ed,ca,hk,k7,hl,oB,oC,nc,lo,oD,oE,oF,l0,l1,l2,f0,f1,f4,f5,f6,f7,f8,f9,f10,f11,f12,f13,f14,f15,f16,f17,f18,f19,f20,f21,f22,f23,f24,f25,f26,f27,f28,f29,f30,f31,f42,f97,f131,f132,f133,f134];rfl) (fun I=>?_) (fun I=>?_)<;>first|(exfalso;simp(disch:=omega) [<-a_,<-eB,bz,b4,fM,au,eP,nK,nL,oz,oA,t0,t4,t1,t2,t3,s1,s2,b3,ed,ca,hk,k7,hl,oB,oC,nc,lo,oD,oE,oF,l0,l1,l2] at I;done)|(exfalso;simp at I;omega)|(simp at I))
      | ((first|refine aH ?_|refine aN ?_);simp(disch:=omega) [<-a_,<-eB,bz,b4,fM,au,eP,nK,nL,oz,oA,t0,t4,t1,t2,t3,s1,s2,b3,ed,ca,hk,k7,hl,oB,oC,nc,lo,oD,oE,oF,l0,l1,l2,f0,f1,f4,f5,f6,f7,f8,f9,f10,f11,f12,f13,f14,f15,f16,f17,f18,f19,f20,f21,f22,f23,f24,f25,f26,f27,f28,f29,f30,f31,f42,f97,f131,f132,f133,f134]))
     generalize Cr: [aw dg,aw cV,aw cY,aw dF,aw dK]=Cs at*
     have wm:∀i,i<5->Cs[i]? =some (aw (a5 [dg,cV,cY,dF,dK] i)):=fun i an=>by
      rw[<-Cr]
      rcases show i=0\/i=1\/i=2\/i=3\/i=4 by omega with rfl|rfl|rfl|rfl|rfl<;>rfl
     generalize qe: [dg,cV,cY,dF,dK]=cs at*
     refine o8 5 (fun i s=>y_ k cs i s/\s.F 133=bp i/\s.h.cells 17=some [bp k]) (y_ k cs 5) (fun _=>False) ?_ ?_ ?_ (fun _ _ h=>h.elim)
     · exact ⟨⟨true,by rw[nI,eX];exact f29⟩,f133,by simp[aG]⟩
     · rintro i s an s5 ⟨⟨e,s6⟩,Ct,nM⟩
       have aI:=s5
       replace f6:=(aI 6 rfl).trans f6;replace f131:=(aI 131 rfl).trans f131;replace f132:=(aI 132 rfl).trans f132
       clear f29 f133 s5
       have f29:=s6
       have f133:=Ct
       refine al [6,29,30,31,131,132,133,134] ?_
       intro F
       simp only[ak]
       intro ag en cU fE fF fG fH fI
       try simp[aS,f6,f29,f131,f132,f133] at ag en cU fE fF fG fH fI
       clear f6 f29 f131 f132 f133
       have f6:=ag
       have f29:=en
       have f30:=cU
       have f31:=fE
       have f131:=fF
       have f132:=fG
       have f133:=fH
       have f134:=fI
       clear ag en cU fE fF fG fH fI
       by_cases cf:i<5
       · have g6:(Z i<(5:Int))=True:=eq_true (by simp only[Z];omega)
         have ge:=wm i cf
         obtain⟨ck,dD⟩:=mc i cf
         have ck:=ck e
         obtain⟨eM,eN⟩:=Jo i cf
         have nN:IntKind.i64.wrap (Z i+Z 1)=Z (i+1):=fa (by omega)
         generalize a5 cs i=ci at*
         generalize 32*k*i=Cu at*
         generalize ci*2^Cu=Sy at*
         repeat' (first
          | refine ax ?_
          | ((fail_if_success (refine aQ ?_));(fail_if_success (refine aR ?_));refine aL ?_)
          | ((first|(refine az cz ?_;simp(disch:=omega) [g6,ge,ck,dD,eM,eN,nM,cf,nN,f6,f29,f30,f31,f131,f132,f133,f134];(try(refine⟨by first|decide|rfl,?_⟩)))|(refine aK ?_;simp(disch:=omega) [g6,ge,ck,dD,eM,eN,nM,cf,nN,f6,f29,f30,f31,f131,f132,f133,f134]));(try(refine al [6,29,30,31,131,132,133,134] ?_;intro F;simp only[ak];intro ag en cU fE fF fG fH fI;simp(disch:=omega) [g6,ge,ck,dD,eM,eN,nM,cf,nN,f6,f29,f30,f31,f131,f132,f133,f134] at ag en cU fE fF fG fH fI;clear f6 f29 f30 f31 f131 f132 f133 f134;have f6:=ag;have f29:=en;have f30:=cU;have f31:=fE;have f131:=fF;have f132:=fG;have f133:=fH;have f134:=fI;clear ag en cU fE fF fG fH fI)))
          | (refine aJ _ (by simp(disch:=omega) [g6,ge,ck,dD,eM,eN,nM,cf,nN,f6,f29,f30,f31,f131,f132,f133,f134];rfl) (fun I=>?_) (fun I=>?_)<;>first|(exfalso;simp(disch:=omega) [g6,ge,ck,dD,eM,eN,nM,cf,nN] at I;done)|(exfalso;simp at I;omega)|(simp at I))
          | ((first|refine aH ?_|refine aN ?_);simp(disch:=omega) [g6,ge,ck,dD,eM,eN,nM,cf,nN,f6,f29,f30,f31,f131,f132,f133,f134]))
         exact ⟨false,f29⟩
       · have g6:(Z i<(5:Int))=False:=eq_false (by simp only[Z];omega)
         obtain rfl:i=5:=by omega
         repeat' (first
          | refine ax ?_
          | ((fail_if_success (refine aQ ?_));(fail_if_success (refine aR ?_));refine aL ?_)
          | ((first|(refine az cz ?_;simp(disch:=omega) [g6,f6,f29,f30,f31,f131,f132,f133,f134];(try(refine⟨by first|decide|rfl,?_⟩)))|(refine aK ?_;simp(disch:=omega) [g6,f6,f29,f30,f31,f131,f132,f133,f134]));(try(refine al [6,29,30,31,131,132,133,134] ?_;intro F;simp only[ak];intro ag en cU fE fF fG fH fI;simp(disch:=omega) [g6,f6,f29,f30,f31,f131,f132,f133,f134] at ag en cU fE fF fG fH fI;clear f6 f29 f30 f31 f131 f132 f133 f134;have f6:=ag;have f29:=en;have f30:=cU;have f31:=fE;have f131:=fF;have f132:=fG;have f133:=fH;have f134:=fI;clear ag en cU fE fF fG fH fI)))
          | (refine aJ _ (by simp(disch:=omega) [g6,f6,f29,f30,f31,f131,f132,f133,f134];rfl) (fun I=>?_) (fun I=>?_)<;>first|(exfalso;simp(disch:=omega) [g6] at I;done)|(exfalso;simp at I;omega)|(simp at I))
          | ((first|refine aH ?_|refine aN ?_);simp(disch:=omega) [g6,f6,f29,f30,f31,f131,f132,f133,f134]))
         exact ⟨e,f29⟩
     · rintro s s5 ⟨e,s6⟩
       clear f29 f133
       have f29:=s6
       refine al [4,29] ?_
       intro F
       simp only[ak]
       intro ad en
       try simp[aS,f29] at ad en
       clear f29
       have f4:=ad
       have f29:=en
       clear ad en
       repeat' (first
        | refine ax ?_
        | ((fail_if_success (refine aQ ?_));(fail_if_success (refine aR ?_));refine aL ?_)
        | ((first|(refine az cz ?_;simp(disch:=omega) [f4,f29];(try(refine⟨by first|decide|rfl,?_⟩)))|(refine aK ?_;simp(disch:=omega) [f4,f29]));(try(refine al [4,29] ?_;intro F;simp only[ak];intro ad en;simp(disch:=omega) [f4,f29] at ad en;clear f4 f29;have f4:=ad;have f29:=en;clear ad en)))
        | (refine aJ _ (by simp(disch:=omega) [f4,f29];rfl) (fun I=>?_) (fun I=>?_)<;>first|(exfalso;simp(disch:=omega) at I;done)|(exfalso;simp at I;omega)|(simp at I))
        | ((first|refine aH ?_|refine aN ?_);simp(disch:=omega) [f4,f29]))
end
section
attribute [local irreducible] cQ
attribute [local simp] ek eL du
noncomputable def w8:FuncId->Option (List J->Option J):=da [(134,uK),(133,sW),(132,w5)]
theorem Sz:∀f T,w8 f=some T->bl Tryz.prog G f T:=dc (by simp only[List.forall_mem_cons];exact ⟨I4,I8,So,fun _ h=>absurd h (by simp)⟩)
theorem SA:w8 134=some uK:=rfl
theorem SB:w8 133=some sW:=rfl
theorem SC:w8 132=some w5:=rfl
theorem SD:w8 131=none:=rfl
attribute [local simp] SA SB SC SD
noncomputable def uU:List J->Option J:=cl (fun z:Nat × Nat=>(ai z.1).length<=500000/\(ai z.2).length<=500000/\min (ai z.1).length (ai z.2).length<48) (fun z=>[aw z.1,aw z.2]) (fun z=>aw (z.1*z.2))
theorem zb (z:Nat × Nat) (h:(ai z.1).length<=500000/\(ai z.2).length<=500000/\min (ai z.1).length (ai z.2).length<48) {args:List J} (he:args.map J.loose= [aw z.1,aw z.2]):uU args=some (aw (z.1*z.2)):=cI (fun z w h=>by first|(simp only[List.cons.injEq,J.int.injEq,J.bool.injEq,J.sl.injEq,bT,bU,bY,bZ,bX,bG,bL,bV,bI,true_and,and_true] at h;simp[h];done)|(simp only[J.agg.injEq,List.cons.injEq,J.int.injEq,J.bool.injEq,J.sl.injEq,bT,bU,bY,bZ,bX,bG,bL,bV,bI,true_and,and_true] at h;simp[h])) z h he
theorem Jp:bl Tryz.prog G 99 uU:=by
 refine cJ mixed Sz GJ fun z aV=>?_
 obtain⟨a,b⟩:=z
 obtain⟨cZ,cm,fk⟩:=aV
 simp only at cZ cm fk|-
 have t1:=I3 (a,b) ⟨by simp only;omega,by simp only;omega⟩ (args:=[aw a,aw b]) (by simp)
 have t2:=I7 (a,b) ⟨by simp only;omega,by simp only;omega⟩ (args:=[aw a,aw b]) (by simp)
 have t3:=Si (a,b) ⟨cZ,cm⟩ (args:=[aw a,aw b]) (by simp)
 simp only at t1 t2 t3
 have m:=um (ai a).length (ai b).length
 generalize min (ai a).length (ai b).length=k at*
 generalize a*b=c at*
 obtain⟨W,mx⟩:∃W:List J,W= [.agg [.int .i64 (Z 48),.fn 131 [] []],.agg [.int .i64 (Z 14),.fn 132 [] []],.agg [.int .i64 (Z 8),.fn 133 [] []]]:=⟨_,rfl⟩
 have cA:W[0]? =some (.agg [.int .i64 (Z 48),.fn 131 [] []]):=by rw[mx];rfl
 have ba:W[1]? =some (.agg [.int .i64 (Z 14),.fn 132 [] []]):=by rw[mx];rfl
 have br:W[2]? =some (.agg [.int .i64 (Z 8),.fn 133 [] []]):=by rw[mx];rfl
 unfold i99
 refine al [0,1,4,6,10,11,12,13,23] fun F=>?_
 simp only[ak]
 intro f0 f1 f4 f6 f10 f11 f12 f13 f23
 simp[a8] at f0 f1 f4 f6 f10 f11 f12 f13 f23
 repeat' (first
  | refine ax ?_
  | ((fail_if_success (refine aQ ?_));(fail_if_success (refine aR ?_));refine aL ?_)
  | ((first|(refine az aM ?_;simp(disch:=omega) [m,f0,f1,f4,f6,f10,f11,f12,f13,f23];(try(refine⟨by first|decide|rfl,?_⟩)))|(refine aK ?_;simp(disch:=omega) [m,f0,f1,f4,f6,f10,f11,f12,f13,f23]));(try(refine al [0,1,4,6,10,11,12,13,23] ?_;intro F;simp only[ak];intro U ab ad ag aB bA aX aZ dY;simp(disch:=omega) [m,f0,f1,f4,f6,f10,f11,f12,f13,f23] at U ab ad ag aB bA aX aZ dY;clear f0 f1 f4 f6 f10 f11 f12 f13 f23;have f0:=U;have f1:=ab;have f4:=ad;have f6:=ag;have f10:=aB;have f11:=bA;have f12:=aX;have f13:=aZ;have f23:=dY;clear U ab ad ag aB bA aX aZ dY)))
  | (refine aJ _ (by simp(disch:=omega) [m,f0,f1,f4,f6,f10,f11,f12,f13,f23];rfl) (fun I=>?_) (fun I=>?_)<;>first|(exfalso;simp(disch:=omega) [m] at I;done)|(exfalso;simp at I;omega)|(simp at I))
  | ((first|refine aH ?_|refine aN ?_);simp(disch:=omega) [m,f0,f1,f4,f6,f10,f11,f12,f13,f23]))
 have Jq:F 10= .sl W true:=by rw[f10,mx]
 have Jr:F 11=bp 3:=f11
 clear f10 f11
 have f10:=Jq
 have f11:=Jr
 clear Jq Jr mx
 refine o8 3 (fun i s=>s.F 12=bp i/\(∀j,s.h.shut j=false)/\(0<i->k<48)/\(1<i->k<14)/\(2<i->k<8)) (fun s=>True) (fun s=>s.F 4=aw c) ?_ ?_ ?_ ?_
 · exact ⟨f12,fun _=>rfl,by omega,by omega,by omega⟩
 · rintro i s an aI ⟨dh,cG,ae,h2,aO⟩
   replace f0:=(aI 0 rfl).trans f0;replace f1:=(aI 1 rfl).trans f1;replace f10:=(aI 10 rfl).trans f10;replace f11:=(aI 11 rfl).trans f11
   clear f12
   have f12:=dh
   refine al [0,1,4,6,10,11,12,13,23] ?_
   intro F
   simp only[ak]
   intro U ab ad ag aB bA aX aZ dY
   try simp[aS,f0,f1,f10,f11,f12] at U ab ad ag aB bA aX aZ dY
   clear f0 f1 f10 f11 f12
   have f0:=U
   have f1:=ab
   have f4:=ad
   have f6:=ag
   have f10:=aB
   have f11:=bA
   have f12:=aX
   have f13:=aZ
   have f23:=dY
   clear U ab ad ag aB bA aX aZ dY
   rcases show i=0\/i=1\/i=2\/i=3 by omega with rfl|rfl|rfl|rfl
   · skip
     repeat' (first
      | refine ax ?_
      | ((fail_if_success (refine aQ ?_));(fail_if_success (refine aR ?_));refine aL ?_)
      | ((first|(refine az aM ?_;simp(disch:=omega) [cG,cA,m,fk,f0,f1,f4,f6,f10,f11,f12,f13,f23];(try(refine⟨by first|decide|rfl,?_⟩)))|(refine aK ?_;simp(disch:=omega) [cG,cA,m,fk,f0,f1,f4,f6,f10,f11,f12,f13,f23]));(try(refine al [0,1,4,6,10,11,12,13,23] ?_;intro F;simp only[ak];intro U ab ad ag aB bA aX aZ dY;simp(disch:=omega) [cG,cA,m,fk,f0,f1,f4,f6,f10,f11,f12,f13,f23] at U ab ad ag aB bA aX aZ dY;clear f0 f1 f4 f6 f10 f11 f12 f13 f23;have f0:=U;have f1:=ab;have f4:=ad;have f6:=ag;have f10:=aB;have f11:=bA;have f12:=aX;have f13:=aZ;have f23:=dY;clear U ab ad ag aB bA aX aZ dY)))
      | (refine aJ _ (by simp(disch:=omega) [cG,cA,m,fk,f0,f1,f4,f6,f10,f11,f12,f13,f23];rfl) (fun I=>?_) (fun I=>?_)<;>first|(exfalso;simp(disch:=omega) [cG,cA,m,fk] at I;done)|(exfalso;simp at I;omega)|(simp at I))
      | ((first|refine aH ?_|refine aN ?_);simp(disch:=omega) [cG,cA,m,fk,f0,f1,f4,f6,f10,f11,f12,f13,f23]))
   · by_cases l3:k<14
     · skip
       repeat' (first
        | refine ax ?_
        | ((fail_if_success (refine aQ ?_));(fail_if_success (refine aR ?_));refine aL ?_)
        | ((first|(refine az aM ?_;simp(disch:=omega) [cG,ba,m,l3,f0,f1,f4,f6,f10,f11,f12,f13,f23];(try(refine⟨by first|decide|rfl,?_⟩)))|(refine aK ?_;simp(disch:=omega) [cG,ba,m,l3,f0,f1,f4,f6,f10,f11,f12,f13,f23]));(try(refine al [0,1,4,6,10,11,12,13,23] ?_;intro F;simp only[ak];intro U ab ad ag aB bA aX aZ dY;simp(disch:=omega) [cG,ba,m,l3,f0,f1,f4,f6,f10,f11,f12,f13,f23] at U ab ad ag aB bA aX aZ dY;clear f0 f1 f4 f6 f10 f11 f12 f13 f23;have f0:=U;have f1:=ab;have f4:=ad;have f6:=ag;have f10:=aB;have f11:=bA;have f12:=aX;have f13:=aZ;have f23:=dY;clear U ab ad ag aB bA aX aZ dY)))
        | (refine aJ _ (by simp(disch:=omega) [cG,ba,m,l3,f0,f1,f4,f6,f10,f11,f12,f13,f23];rfl) (fun I=>?_) (fun I=>?_)<;>first|(exfalso;simp(disch:=omega) [cG,ba,m,l3] at I;done)|(exfalso;simp at I;omega)|(simp at I))
        | ((first|refine aH ?_|refine aN ?_);simp(disch:=omega) [cG,ba,m,l3,f0,f1,f4,f6,f10,f11,f12,f13,f23]))
     · skip
       repeat' (first
        | refine ax ?_
        | ((fail_if_success (refine aQ ?_));(fail_if_success (refine aR ?_));refine aL ?_)
        | ((first|(refine az aM ?_;simp(disch:=omega) [cG,ba,m,l3,t3,f0,f1,f4,f6,f10,f11,f12,f13,f23];(try(refine⟨by first|decide|rfl,?_⟩)))|(refine aK ?_;simp(disch:=omega) [cG,ba,m,l3,t3,f0,f1,f4,f6,f10,f11,f12,f13,f23]));(try(refine al [0,1,4,6,10,11,12,13,23] ?_;intro F;simp only[ak];intro U ab ad ag aB bA aX aZ dY;simp(disch:=omega) [cG,ba,m,l3,t3,f0,f1,f4,f6,f10,f11,f12,f13,f23] at U ab ad ag aB bA aX aZ dY;clear f0 f1 f4 f6 f10 f11 f12 f13 f23;have f0:=U;have f1:=ab;have f4:=ad;have f6:=ag;have f10:=aB;have f11:=bA;have f12:=aX;have f13:=aZ;have f23:=dY;clear U ab ad ag aB bA aX aZ dY)))
        | (refine aJ _ (by simp(disch:=omega) [cG,ba,m,l3,t3,f0,f1,f4,f6,f10,f11,f12,f13,f23];rfl) (fun I=>?_) (fun I=>?_)<;>first|(exfalso;simp(disch:=omega) [cG,ba,m,l3,t3] at I;done)|(exfalso;simp at I;omega)|(simp at I))
        | ((first|refine aH ?_|refine aN ?_);simp(disch:=omega) [cG,ba,m,l3,t3,f0,f1,f4,f6,f10,f11,f12,f13,f23]))
   · by_cases oG:k<8
     · skip
       repeat' (first
        | refine ax ?_
        | ((fail_if_success (refine aQ ?_));(fail_if_success (refine aR ?_));refine aL ?_)
        | ((first|(refine az aM ?_;simp(disch:=omega) [cG,br,m,oG,f0,f1,f4,f6,f10,f11,f12,f13,f23];(try(refine⟨by first|decide|rfl,?_⟩)))|(refine aK ?_;simp(disch:=omega) [cG,br,m,oG,f0,f1,f4,f6,f10,f11,f12,f13,f23]));(try(refine al [0,1,4,6,10,11,12,13,23] ?_;intro F;simp only[ak];intro U ab ad ag aB bA aX aZ dY;simp(disch:=omega) [cG,br,m,oG,f0,f1,f4,f6,f10,f11,f12,f13,f23] at U ab ad ag aB bA aX aZ dY;clear f0 f1 f4 f6 f10 f11 f12 f13 f23;have f0:=U;have f1:=ab;have f4:=ad;have f6:=ag;have f10:=aB;have f11:=bA;have f12:=aX;have f13:=aZ;have f23:=dY;clear U ab ad ag aB bA aX aZ dY)))
        | (refine aJ _ (by simp(disch:=omega) [cG,br,m,oG,f0,f1,f4,f6,f10,f11,f12,f13,f23];rfl) (fun I=>?_) (fun I=>?_)<;>first|(exfalso;simp(disch:=omega) [cG,br,m,oG] at I;done)|(exfalso;simp at I;omega)|(simp at I))
        | ((first|refine aH ?_|refine aN ?_);simp(disch:=omega) [cG,br,m,oG,f0,f1,f4,f6,f10,f11,f12,f13,f23]))
     · skip
       repeat' (first
        | refine ax ?_
        | ((fail_if_success (refine aQ ?_));(fail_if_success (refine aR ?_));refine aL ?_)
        | ((first|(refine az aM ?_;simp(disch:=omega) [cG,br,m,oG,t2,f0,f1,f4,f6,f10,f11,f12,f13,f23];(try(refine⟨by first|decide|rfl,?_⟩)))|(refine aK ?_;simp(disch:=omega) [cG,br,m,oG,t2,f0,f1,f4,f6,f10,f11,f12,f13,f23]));(try(refine al [0,1,4,6,10,11,12,13,23] ?_;intro F;simp only[ak];intro U ab ad ag aB bA aX aZ dY;simp(disch:=omega) [cG,br,m,oG,t2,f0,f1,f4,f6,f10,f11,f12,f13,f23] at U ab ad ag aB bA aX aZ dY;clear f0 f1 f4 f6 f10 f11 f12 f13 f23;have f0:=U;have f1:=ab;have f4:=ad;have f6:=ag;have f10:=aB;have f11:=bA;have f12:=aX;have f13:=aZ;have f23:=dY;clear U ab ad ag aB bA aX aZ dY)))
        | (refine aJ _ (by simp(disch:=omega) [cG,br,m,oG,t2,f0,f1,f4,f6,f10,f11,f12,f13,f23];rfl) (fun I=>?_) (fun I=>?_)<;>first|(exfalso;simp(disch:=omega) [cG,br,m,oG,t2] at I;done)|(exfalso;simp at I;omega)|(simp at I))
        | ((first|refine aH ?_|refine aN ?_);simp(disch:=omega) [cG,br,m,oG,t2,f0,f1,f4,f6,f10,f11,f12,f13,f23]))
   · skip
     repeat' (first
      | refine ax ?_
      | ((fail_if_success (refine aQ ?_));(fail_if_success (refine aR ?_));refine aL ?_)
      | ((first|(refine az aM ?_;simp(disch:=omega) [f0,f1,f4,f6,f10,f11,f12,f13,f23];(try(refine⟨by first|decide|rfl,?_⟩)))|(refine aK ?_;simp(disch:=omega) [f0,f1,f4,f6,f10,f11,f12,f13,f23]));(try(refine al [0,1,4,6,10,11,12,13,23] ?_;intro F;simp only[ak];intro U ab ad ag aB bA aX aZ dY;simp(disch:=omega) [f0,f1,f4,f6,f10,f11,f12,f13,f23] at U ab ad ag aB bA aX aZ dY;clear f0 f1 f4 f6 f10 f11 f12 f13 f23;have f0:=U;have f1:=ab;have f4:=ad;have f6:=ag;have f10:=aB;have f11:=bA;have f12:=aX;have f13:=aZ;have f23:=dY;clear U ab ad ag aB bA aX aZ dY)))
      | (refine aJ _ (by simp(disch:=omega) [f0,f1,f4,f6,f10,f11,f12,f13,f23];rfl) (fun I=>?_) (fun I=>?_)<;>first|(exfalso;simp(disch:=omega) at I;done)|(exfalso;simp at I;omega)|(simp at I))
      | ((first|refine aH ?_|refine aN ?_);simp(disch:=omega) [f0,f1,f4,f6,f10,f11,f12,f13,f23]))
 · rintro s aI -
   replace f0:=(aI 0 rfl).trans f0;replace f1:=(aI 1 rfl).trans f1
   clear f12
   refine al [0,1,4] ?_
   intro F
   simp only[ak]
   intro U ab ad
   try simp[aS,f0,f1] at U ab ad
   clear f0 f1
   have f0:=U
   have f1:=ab
   have f4:=ad
   clear U ab ad
   repeat' (first
    | refine ax ?_
    | ((fail_if_success (refine aQ ?_));(fail_if_success (refine aR ?_));refine aL ?_)
    | ((first|(refine az aM ?_;simp(disch:=omega) [t1,f0,f1,f4];(try(refine⟨by first|decide|rfl,?_⟩)))|(refine aK ?_;simp(disch:=omega) [t1,f0,f1,f4]));(try(refine al [0,1,4] ?_;intro F;simp only[ak];intro U ab ad;simp(disch:=omega) [t1,f0,f1,f4] at U ab ad;clear f0 f1 f4;have f0:=U;have f1:=ab;have f4:=ad;clear U ab ad)))
    | (refine aJ _ (by simp(disch:=omega) [t1,f0,f1,f4];rfl) (fun I=>?_) (fun I=>?_)<;>first|(exfalso;simp(disch:=omega) [t1] at I;done)|(exfalso;simp at I;omega)|(simp at I))
    | ((first|refine aH ?_|refine aN ?_);simp(disch:=omega) [t1,f0,f1,f4]))
 · rintro s aI a2
   simp[a2]
end
section
attribute [local irreducible] cQ
attribute [local simp] ek eL du
noncomputable def Js:FuncId->Option (List J->Option J):=da [(99,uU)]
theorem SE:∀f T,Js f=some T->bl Tryz.prog G f T:=dc (by simp only[List.forall_mem_cons];exact ⟨Jp,fun _ h=>absurd h (by simp)⟩)
theorem SF:Js 99=some uU:=rfl
attribute [local simp] SF
theorem SG {x y:Nat} (av:x≠0) (bj:y≠0):(ai x).length+(ai y).length<=(ai (x*y)).length+1:=by
 have ae:=lk.2 av
 have h2:=lk.2 bj
 have aO:aE ((ai x).length - 1)<=x:=BH.1 (by omega)
 have a2:aE ((ai y).length - 1)<=y:=BH.1 (by omega)
 have cf:=Nat.mul_le_mul aO a2
 rw[<-hg] at cf
 have:=BH.2 cf
 omega
theorem Jt {x y R:Nat} (h:x*y<=R) (eu:(ai R).length<=94):min (ai x).length (ai y).length<48:=by
 by_cases av:x=0
 · subst av;rw[eX];simp
 by_cases bj:y=0
 · subst bj;rw[eX];simp
 have ae:=SG av bj
 have h2:=f_ h
 omega
def Ju (a n m:Nat) (s:bg):Prop:=∃o b e,o*b^m=a^n/\(ai o).length<=94/\(ai b).length<=94/\(a=0->b=0)/\s.F 5=cH (ai o) e/\s.F 0=aw b/\s.F 1=bp m
theorem SH {o b m R:Nat} (h:o*b^m=R) (hm:m%2=1):(o*b)*(b*b)^(m/2)=R:=by
 have e:m=2*(m/2)+1:=by omega
 rw[<-h]
 generalize m/2=k at*
 subst e
 rw[Nat.pow_succ,Nat.pow_mul,Nat.pow_two,Nat.mul_assoc,Nat.mul_comm b]
theorem SI {o b m R:Nat} (h:o*b^m=R) (hm:m%2=0):o*(b*b)^(m/2)=R:=by
 have e:m=2*(m/2):=by omega
 rw[<-h]
 generalize m/2=k at*
 subst e
 rw[Nat.pow_mul,Nat.pow_two]
theorem Jv {x y R:Nat} (h:x*y=R) (eu:R≠0):x<=R:=by
 rw[<-h];exact Nat.le_mul_of_pos_right _ (Nat.pos_of_ne_zero fun aS=>eu (by rw[<-h,aS,Nat.mul_zero]))
theorem Jw {a n:Nat} (h:a^n=0):a=0:=Decidable.byContradiction fun bF=>absurd h (Nat.ne_of_gt (Nat.pow_pos (Nat.pos_of_ne_zero bF)))
noncomputable def uV:List J->Option J:=cl (fun z:Nat × Nat=>(ai z.1).length<=94/\z.2<9223372036854775808/\(ai (z.1^z.2)).length<=94) (fun z=>[aw z.1,bp z.2]) (fun z=>aw (z.1^z.2))
theorem SJ (z:Nat × Nat) (h:(ai z.1).length<=94/\z.2<9223372036854775808/\(ai (z.1^z.2)).length<=94) {args:List J} (he:args.map J.loose= [aw z.1,bp z.2]):uV args=some (aw (z.1^z.2)):=cI (fun z w h=>by first|(simp only[List.cons.injEq,J.int.injEq,J.bool.injEq,J.sl.injEq,bT,bU,bY,bZ,bX,bG,bL,bV,bI,true_and,and_true] at h;simp[h];done)|(simp only[J.agg.injEq,List.cons.injEq,J.int.injEq,J.bool.injEq,J.sl.injEq,bT,bU,bY,bZ,bX,bG,bL,bV,bI,true_and,and_true] at h;simp[h])) z h he
theorem Jx:bl Tryz.prog G 94 uV:=by
 refine cJ mixed SE GF fun z aV=>?_
 obtain⟨a,n⟩:=z
 obtain⟨cZ,aC,uw⟩:=aV
 simp only at cZ aC uw|-
 unfold i94
 refine al [0,1,4,5,8,13,18] fun F=>?_
 simp only[ak]
 intro f0 f1 f4 f5 f8 f13 f18
 simp[a8] at f0 f1 f4 f5 f8 f13 f18
 repeat' (first
  | refine ax ?_
  | ((fail_if_success (refine aQ ?_));(fail_if_success (refine aR ?_));refine aL ?_)
  | ((first|(refine az aM ?_;simp(disch:=omega) [f0,f1,f4,f5,f8,f13,f18];(try(refine⟨by first|decide|rfl,?_⟩)))|(refine aK ?_;simp(disch:=omega) [f0,f1,f4,f5,f8,f13,f18]));(try(refine al [0,1,4,5,8,13,18] ?_;intro F;simp only[ak];intro U ab ad ah ao aZ bP;simp(disch:=omega) [f0,f1,f4,f5,f8,f13,f18] at U ab ad ah ao aZ bP;clear f0 f1 f4 f5 f8 f13 f18;have f0:=U;have f1:=ab;have f4:=ad;have f5:=ah;have f8:=ao;have f13:=aZ;have f18:=bP;clear U ab ad ah ao aZ bP)))
  | (refine aJ _ (by simp(disch:=omega) [f0,f1,f4,f5,f8,f13,f18];rfl) (fun I=>?_) (fun I=>?_)<;>first|(exfalso;simp(disch:=omega) at I;done)|(exfalso;simp at I;omega)|(simp at I))
  | ((first|refine aH ?_|refine aN ?_);simp(disch:=omega) [f0,f1,f4,f5,f8,f13,f18]))
 refine na (fun m s=>m<9223372036854775808/\Ju a n m s) (Ju a n 0) (fun _=>False) n ?_ ?_ ?_ (fun _ _ h=>h.elim)
 · exact ⟨aC,1,a,true,Nat.one_mul _,by rw[lX];decide,cZ,fun h=>h,by show F 5=_;rw[f5,lX];rfl,f0,f1⟩
 · rintro m s aI ⟨hm,o,b,e,aY,bd,cm,g2,ev,cA,ba⟩
   clear f0 f1 f5
   have f0:=cA
   have f1:=ba
   have f5:=ev
   refine al [0,1,5,8,13,18] ?_
   intro F
   simp only[ak]
   intro U ab ah ao aZ bP
   try simp[aS,f0,f1,f5] at U ab ah ao aZ bP
   clear f0 f1 f5
   have f0:=U
   have f1:=ab
   have f5:=ah
   have f8:=ao
   have f13:=aZ
   have f18:=bP
   clear U ab ah ao aZ bP
   have l4:(m&&&1)=m%2:=Nat.and_one_is_mod m
   have cG:min 1 64=1:=by decide
   by_cases my:m=0
   · subst my
     repeat' (first
      | refine ax ?_
      | ((fail_if_success (refine aQ ?_));(fail_if_success (refine aR ?_));refine aL ?_)
      | ((first|(refine az aM ?_;simp(disch:=omega) [f0,f1,f5,f8,f13,f18];(try(refine⟨by first|decide|rfl,?_⟩)))|(refine aK ?_;simp(disch:=omega) [f0,f1,f5,f8,f13,f18]));(try(refine al [0,1,5,8,13,18] ?_;intro F;simp only[ak];intro U ab ah ao aZ bP;simp(disch:=omega) [f0,f1,f5,f8,f13,f18] at U ab ah ao aZ bP;clear f0 f1 f5 f8 f13 f18;have f0:=U;have f1:=ab;have f5:=ah;have f8:=ao;have f13:=aZ;have f18:=bP;clear U ab ah ao aZ bP)))
      | (refine aJ _ (by simp(disch:=omega) [f0,f1,f5,f8,f13,f18];rfl) (fun I=>?_) (fun I=>?_)<;>first|(exfalso;simp(disch:=omega) at I;done)|(exfalso;simp at I;omega)|(simp at I))
      | ((first|refine aH ?_|refine aN ?_);simp(disch:=omega) [f0,f1,f5,f8,f13,f18]))
     exact ⟨o,b,e,aY,bd,cm,g2,f5,f0,f1⟩
   · have oH:0<m:=by omega
     have vV:∀R,o*b^m=R->R≠0->1<m->b*b<=R:=fun R h eu k8=>by
      have au:b≠0:=fun aS=>eu (by rw[<-h,aS,Nat.zero_pow (by omega),Nat.mul_zero])
      have ae:b^m<=R:=by rw[Nat.mul_comm] at h;exact Jv h eu
      have h2:b^2<=b^m:=Nat.pow_le_pow_right (by omega) k8
      rw[Nat.pow_two] at h2
      omega
     have mA:1<m->min (ai b).length (ai b).length<48/\(ai (b*b)).length<=94:=fun k8=>by
      by_cases eu:a^n=0
      · have:=g2 (Jw eu)
        subst this
        rw[Nat.zero_mul,eX];simp
      · have:=vV _ aY eu k8
        exact ⟨Jt this uw,Nat.le_trans (f_ this) uw⟩
     by_cases s7:m%2=1
     · have qC:=SH aY s7
       have Cv:min (ai o).length (ai b).length<48/\(ai (o*b)).length<=94:=by
        by_cases eu:a^n=0
        · have:=g2 (Jw eu)
          subst this
          rw[Nat.mul_zero,eX];simp
        · have:=Jv qC eu
          exact ⟨Jt this uw,Nat.le_trans (f_ this) uw⟩
       have t1:=zb (o,b) ⟨by simp only;omega,by simp only;omega,Cv.1⟩ (args:=[cH (ai o) e,aw b]) (by simp)
       simp only at t1
       by_cases k8:1<m
       · have t2:=zb (b,b) ⟨by simp only;omega,by simp only;omega,(mA k8).1⟩ (args:=[aw b,aw b]) (by simp)
         have cn:=(mA k8).2
         simp only at t2
         generalize Jy:o*b=Cw at*
         generalize Cx:b*b=cN at*
         repeat' (first
          | refine ax ?_
          | ((fail_if_success (refine aQ ?_));(fail_if_success (refine aR ?_));refine aL ?_)
          | ((first|(refine az aM ?_;simp(disch:=omega) [oH,l4,s7,k8,cG,t1,t2,f0,f1,f5,f8,f13,f18];(try(refine⟨by first|decide|rfl,?_⟩)))|(refine aK ?_;simp(disch:=omega) [oH,l4,s7,k8,cG,t1,t2,f0,f1,f5,f8,f13,f18]));(try(refine al [0,1,5,8,13,18] ?_;intro F;simp only[ak];intro U ab ah ao aZ bP;simp(disch:=omega) [oH,l4,s7,k8,cG,t1,t2,f0,f1,f5,f8,f13,f18] at U ab ah ao aZ bP;clear f0 f1 f5 f8 f13 f18;have f0:=U;have f1:=ab;have f5:=ah;have f8:=ao;have f13:=aZ;have f18:=bP;clear U ab ah ao aZ bP)))
          | (refine aJ _ (by simp(disch:=omega) [oH,l4,s7,k8,cG,t1,t2,f0,f1,f5,f8,f13,f18];rfl) (fun I=>?_) (fun I=>?_)<;>first|(exfalso;simp(disch:=omega) [oH,l4,s7,k8,cG,t1,t2] at I;done)|(exfalso;simp at I;omega)|(simp at I))
          | ((first|refine aH ?_|refine aN ?_);simp(disch:=omega) [oH,l4,s7,k8,cG,t1,t2,f0,f1,f5,f8,f13,f18]))
         exact ⟨m/2,by omega,by omega,Cw,cN,false,qC,Cv.2,cn,fun h=>by rw[<-Cx,g2 h],f5,f0,rfl⟩
       · have SK:m=1:=by omega
         subst SK
         generalize Jy:o*b=Cw at*
         repeat' (first
          | refine ax ?_
          | ((fail_if_success (refine aQ ?_));(fail_if_success (refine aR ?_));refine aL ?_)
          | ((first|(refine az aM ?_;simp(disch:=omega) [l4,cG,t1,f0,f1,f5,f8,f13,f18];(try(refine⟨by first|decide|rfl,?_⟩)))|(refine aK ?_;simp(disch:=omega) [l4,cG,t1,f0,f1,f5,f8,f13,f18]));(try(refine al [0,1,5,8,13,18] ?_;intro F;simp only[ak];intro U ab ah ao aZ bP;simp(disch:=omega) [l4,cG,t1,f0,f1,f5,f8,f13,f18] at U ab ah ao aZ bP;clear f0 f1 f5 f8 f13 f18;have f0:=U;have f1:=ab;have f5:=ah;have f8:=ao;have f13:=aZ;have f18:=bP;clear U ab ah ao aZ bP)))
          | (refine aJ _ (by simp(disch:=omega) [l4,cG,t1,f0,f1,f5,f8,f13,f18];rfl) (fun I=>?_) (fun I=>?_)<;>first|(exfalso;simp(disch:=omega) [l4,cG,t1] at I;done)|(exfalso;simp at I;omega)|(simp at I))
          | ((first|refine aH ?_|refine aN ?_);simp(disch:=omega) [l4,cG,t1,f0,f1,f5,f8,f13,f18]))
         exact ⟨Cw,b,false,by rw[<-Jy,Nat.pow_zero,Nat.mul_one];rw[Nat.pow_one] at aY;exact aY,Cv.2,cm,g2,f5,f0,rfl⟩
     · have s8:m%2=0:=by omega
       have k8:1<m:=by omega
       have qC:=SI aY s8
       have t2:=zb (b,b) ⟨by simp only;omega,by simp only;omega,(mA k8).1⟩ (args:=[aw b,aw b]) (by simp)
       have cn:=(mA k8).2
       simp only at t2
       generalize Cx:b*b=cN at*
       repeat' (first
        | refine ax ?_
        | ((fail_if_success (refine aQ ?_));(fail_if_success (refine aR ?_));refine aL ?_)
        | ((first|(refine az aM ?_;simp(disch:=omega) [oH,l4,s8,k8,cG,t2,f0,f1,f5,f8,f13,f18];(try(refine⟨by first|decide|rfl,?_⟩)))|(refine aK ?_;simp(disch:=omega) [oH,l4,s8,k8,cG,t2,f0,f1,f5,f8,f13,f18]));(try(refine al [0,1,5,8,13,18] ?_;intro F;simp only[ak];intro U ab ah ao aZ bP;simp(disch:=omega) [oH,l4,s8,k8,cG,t2,f0,f1,f5,f8,f13,f18] at U ab ah ao aZ bP;clear f0 f1 f5 f8 f13 f18;have f0:=U;have f1:=ab;have f5:=ah;have f8:=ao;have f13:=aZ;have f18:=bP;clear U ab ah ao aZ bP)))
        | (refine aJ _ (by simp(disch:=omega) [oH,l4,s8,k8,cG,t2,f0,f1,f5,f8,f13,f18];rfl) (fun I=>?_) (fun I=>?_)<;>first|(exfalso;simp(disch:=omega) [oH,l4,s8,k8,cG,t2] at I;done)|(exfalso;simp at I;omega)|(simp at I))
        | ((first|refine aH ?_|refine aN ?_);simp(disch:=omega) [oH,l4,s8,k8,cG,t2,f0,f1,f5,f8,f13,f18]))
       exact ⟨m/2,by omega,by omega,o,cN,e,qC,bd,cn,fun h=>by rw[<-Cx,g2 h],f5,f0,rfl⟩
 · rintro s aI ⟨o,b,e,aY,bd,cm,g2,ev,cA,ba⟩
   rw[Nat.pow_zero,Nat.mul_one] at aY
   subst aY
   clear f0 f1 f5
   have f5:=ev
   refine al [4,5] ?_
   intro F
   simp only[ak]
   intro ad ah
   try simp[aS,f5] at ad ah
   clear f5
   have f4:=ad
   have f5:=ah
   clear ad ah
   generalize a^n=r at*
   repeat' (first
    | refine ax ?_
    | ((fail_if_success (refine aQ ?_));(fail_if_success (refine aR ?_));refine aL ?_)
    | ((first|(refine az aM ?_;simp(disch:=omega) [f4,f5];(try(refine⟨by first|decide|rfl,?_⟩)))|(refine aK ?_;simp(disch:=omega) [f4,f5]));(try(refine al [4,5] ?_;intro F;simp only[ak];intro ad ah;simp(disch:=omega) [f4,f5] at ad ah;clear f4 f5;have f4:=ad;have f5:=ah;clear ad ah)))
    | (refine aJ _ (by simp(disch:=omega) [f4,f5];rfl) (fun I=>?_) (fun I=>?_)<;>first|(exfalso;simp(disch:=omega) at I;done)|(exfalso;simp at I;omega)|(simp at I))
    | ((first|refine aH ?_|refine aN ?_);simp(disch:=omega) [f4,f5]))
end
section
attribute [local irreducible] cQ
attribute [local simp] ek eL du
noncomputable def zc:FuncId->Option (List J->Option J):=da [(99,uU),(94,uV),(97,nE)]
theorem SL:∀f T,zc f=some T->bl Tryz.prog G f T:=dc (by simp only[List.forall_mem_cons];exact ⟨Jp,Jx,w0,fun _ h=>absurd h (by simp)⟩)
theorem SM:zc 99=some uU:=rfl
theorem SN:zc 94=some uV:=rfl
theorem SO:zc 97=some nE:=rfl
attribute [local simp] SM SN SO
noncomputable def nO:List J->Option J:=cl (fun z:Int × Int=>bS z.1<=500000/\bS z.2<=500000/\min (bS z.1) (bS z.2)<48) (fun z=>[a7 z.1,a7 z.2]) (fun z=>a7 (z.1*z.2))
theorem s9 (z:Int × Int) (h:bS z.1<=500000/\bS z.2<=500000/\min (bS z.1) (bS z.2)<48) {args:List J} (he:args.map J.loose= [a7 z.1,a7 z.2]):nO args=some (a7 (z.1*z.2)):=cI (fun z w h=>by first|(simp only[List.cons.injEq,J.int.injEq,J.bool.injEq,J.sl.injEq,bT,bU,bY,bZ,bX,bG,bL,bV,bI,true_and,and_true] at h;simp[h];done)|(simp only[J.agg.injEq,List.cons.injEq,J.int.injEq,J.bool.injEq,J.sl.injEq,bT,bU,bY,bZ,bX,bG,bL,bV,bI,true_and,and_true] at h;simp[h])) z h he
theorem w9:bl Tryz.prog G 52 nO:=by
 refine cJ mixed SL Gg fun z aV=>?_
 obtain⟨a,b⟩:=z
 obtain⟨bF,au,hm⟩:=aV
 simp only[bS] at bF au hm|-
 have t1:=zb (a.natAbs,b.natAbs) ⟨bF,au,hm⟩ (args:=[aw a.natAbs,aw b.natAbs]) (by simp)
 have a6:=hC a.natAbs b.natAbs
 have t2:=sU (b:=b' a != b' b) (n:=a.natAbs*b.natAbs) (by omega)
 rw[Jn] at t2
 simp only at t1
 generalize a.natAbs*b.natAbs=m at*
 generalize a*b=c at*
 unfold i52
 cases aU:b' a<;>cases a9:b' b<;>rw[aU,a9] at t2<;>simp only[bne,beq_self_eq_true,Bool.not_true,Bool.not_false,show (false == true)=false from rfl,show (true == false)=false from rfl] at t2
 · skip
   refine al [0,1,2,3,4] fun F=>?_
   simp only[ak]
   intro f0 f1 f2 f3 f4
   simp[a8] at f0 f1 f2 f3 f4
   repeat' (first
    | refine ax ?_
    | ((fail_if_success (refine aQ ?_));(fail_if_success (refine aR ?_));refine aL ?_)
    | ((first|(refine az aM ?_;simp(disch:=omega) [aU,a9,t1,t2,f0,f1,f2,f3,f4];(try(refine⟨by first|decide|rfl,?_⟩)))|(refine aK ?_;simp(disch:=omega) [aU,a9,t1,t2,f0,f1,f2,f3,f4]));(try(refine al [0,1,2,3,4] ?_;intro F;simp only[ak];intro U ab aa af ad;simp(disch:=omega) [aU,a9,t1,t2,f0,f1,f2,f3,f4] at U ab aa af ad;clear f0 f1 f2 f3 f4;have f0:=U;have f1:=ab;have f2:=aa;have f3:=af;have f4:=ad;clear U ab aa af ad)))
    | (refine aJ _ (by simp(disch:=omega) [aU,a9,t1,t2,f0,f1,f2,f3,f4];rfl) (fun I=>?_) (fun I=>?_)<;>first|(exfalso;simp(disch:=omega) [aU,a9,t1,t2] at I;done)|(exfalso;simp at I;omega)|(simp at I))
    | ((first|refine aH ?_|refine aN ?_);simp(disch:=omega) [aU,a9,t1,t2,f0,f1,f2,f3,f4]))
 · skip
   refine al [0,1,2,3,4] fun F=>?_
   simp only[ak]
   intro f0 f1 f2 f3 f4
   simp[a8] at f0 f1 f2 f3 f4
   repeat' (first
    | refine ax ?_
    | ((fail_if_success (refine aQ ?_));(fail_if_success (refine aR ?_));refine aL ?_)
    | ((first|(refine az aM ?_;simp(disch:=omega) [aU,a9,t1,t2,f0,f1,f2,f3,f4];(try(refine⟨by first|decide|rfl,?_⟩)))|(refine aK ?_;simp(disch:=omega) [aU,a9,t1,t2,f0,f1,f2,f3,f4]));(try(refine al [0,1,2,3,4] ?_;intro F;simp only[ak];intro U ab aa af ad;simp(disch:=omega) [aU,a9,t1,t2,f0,f1,f2,f3,f4] at U ab aa af ad;clear f0 f1 f2 f3 f4;have f0:=U;have f1:=ab;have f2:=aa;have f3:=af;have f4:=ad;clear U ab aa af ad)))
    | (refine aJ _ (by simp(disch:=omega) [aU,a9,t1,t2,f0,f1,f2,f3,f4];rfl) (fun I=>?_) (fun I=>?_)<;>first|(exfalso;simp(disch:=omega) [aU,a9,t1,t2] at I;done)|(exfalso;simp at I;omega)|(simp at I))
    | ((first|refine aH ?_|refine aN ?_);simp(disch:=omega) [aU,a9,t1,t2,f0,f1,f2,f3,f4]))
 · skip
   refine al [0,1,2,3,4] fun F=>?_
   simp only[ak]
   intro f0 f1 f2 f3 f4
   simp[a8] at f0 f1 f2 f3 f4
   repeat' (first
    | refine ax ?_
    | ((fail_if_success (refine aQ ?_));(fail_if_success (refine aR ?_));refine aL ?_)
    | ((first|(refine az aM ?_;simp(disch:=omega) [aU,a9,t1,t2,f0,f1,f2,f3,f4];(try(refine⟨by first|decide|rfl,?_⟩)))|(refine aK ?_;simp(disch:=omega) [aU,a9,t1,t2,f0,f1,f2,f3,f4]));(try(refine al [0,1,2,3,4] ?_;intro F;simp only[ak];intro U ab aa af ad;simp(disch:=omega) [aU,a9,t1,t2,f0,f1,f2,f3,f4] at U ab aa af ad;clear f0 f1 f2 f3 f4;have f0:=U;have f1:=ab;have f2:=aa;have f3:=af;have f4:=ad;clear U ab aa af ad)))
    | (refine aJ _ (by simp(disch:=omega) [aU,a9,t1,t2,f0,f1,f2,f3,f4];rfl) (fun I=>?_) (fun I=>?_)<;>first|(exfalso;simp(disch:=omega) [aU,a9,t1,t2] at I;done)|(exfalso;simp at I;omega)|(simp at I))
    | ((first|refine aH ?_|refine aN ?_);simp(disch:=omega) [aU,a9,t1,t2,f0,f1,f2,f3,f4]))
 · skip
   refine al [0,1,2,3,4] fun F=>?_
   simp only[ak]
   intro f0 f1 f2 f3 f4
   simp[a8] at f0 f1 f2 f3 f4
   repeat' (first
    | refine ax ?_
    | ((fail_if_success (refine aQ ?_));(fail_if_success (refine aR ?_));refine aL ?_)
    | ((first|(refine az aM ?_;simp(disch:=omega) [aU,a9,t1,t2,f0,f1,f2,f3,f4];(try(refine⟨by first|decide|rfl,?_⟩)))|(refine aK ?_;simp(disch:=omega) [aU,a9,t1,t2,f0,f1,f2,f3,f4]));(try(refine al [0,1,2,3,4] ?_;intro F;simp only[ak];intro U ab aa af ad;simp(disch:=omega) [aU,a9,t1,t2,f0,f1,f2,f3,f4] at U ab aa af ad;clear f0 f1 f2 f3 f4;have f0:=U;have f1:=ab;have f2:=aa;have f3:=af;have f4:=ad;clear U ab aa af ad)))
    | (refine aJ _ (by simp(disch:=omega) [aU,a9,t1,t2,f0,f1,f2,f3,f4];rfl) (fun I=>?_) (fun I=>?_)<;>first|(exfalso;simp(disch:=omega) [aU,a9,t1,t2] at I;done)|(exfalso;simp at I;omega)|(simp at I))
    | ((first|refine aH ?_|refine aN ?_);simp(disch:=omega) [aU,a9,t1,t2,f0,f1,f2,f3,f4]))
noncomputable def s_:FuncId->Option (List J->Option J):=da [(93,lY),(124,mX),(45,mz),(80,hi),(97,nE)]
theorem SP:∀f T,s_ f=some T->bl Tryz.prog G f T:=dc (by simp only[List.forall_mem_cons];exact ⟨wU,B',sN,sR,w0,fun _ h=>absurd h (by simp)⟩)
theorem SQ:s_ 93=some lY:=rfl
theorem SR:s_ 124=some mX:=rfl
theorem SS:s_ 45=some mz:=rfl
theorem SU:s_ 80=some hi:=rfl
theorem SV:s_ 97=some nE:=rfl
theorem SW:s_ 123=none:=rfl
attribute [local simp] SQ SR SS SU SV SW
noncomputable def zd:List J->Option J:=cl (fun z:Int × Nat=>bS z.1<=10000000/\z.2<=10000000) (fun z=>[a7 z.1,bp z.2]) (fun z=>a7 (z.1*2^z.2))
theorem SX (z:Int × Nat) (h:bS z.1<=10000000/\z.2<=10000000) {args:List J} (he:args.map J.loose= [a7 z.1,bp z.2]):zd args=some (a7 (z.1*2^z.2)):=cI (fun z w h=>by first|(simp only[List.cons.injEq,J.int.injEq,J.bool.injEq,J.sl.injEq,bT,bU,bY,bZ,bX,bG,bL,bV,bI,true_and,and_true] at h;simp[h];done)|(simp only[J.agg.injEq,List.cons.injEq,J.int.injEq,J.bool.injEq,J.sl.injEq,bT,bU,bY,bZ,bX,bG,bL,bV,bI,true_and,and_true] at h;simp[h])) z h he
theorem SY:bl Tryz.prog G 79 zd:=by
 refine cJ mixed SP Gx fun z aV=>?_
 obtain⟨a,n⟩:=z
 obtain⟨bF,aC⟩:=aV
 simp only[bS] at bF aC|-
 have bc:=Nat.pow_pos (n:=n) (show 0<2 by decide)
 have sf:a.natAbs<=a.natAbs*2^n:=Nat.le_mul_of_pos_right _ bc
 have a6:=hC a.natAbs (2^n)
 have hb:(ai (2^n)).length<=n+1:=c8.2 (by rw[ll];exact Nat.pow_lt_pow_right (by decide) (by omega))
 have t1:=rq (a:=a.natAbs) (n:=n) (e:=false) (by omega) (by omega)
 have t2:=qu (a:=a.natAbs*2^n) (b:=a.natAbs) (e:=false) (e':=false) (by omega) (by omega)
 have t3:=sU (b:=b' a) (n:=a.natAbs*2^n) (by omega)
 rw[Sm] at t3
 have fl:(cT (a.natAbs*2^n) a.natAbs<Z 0)=False:=eq_false (by simp only[cT];rw[if_neg (by omega)];split<;>decide)
 generalize cT (a.natAbs*2^n) a.natAbs=B4 at*
 generalize a.natAbs*2^n=m at*
 generalize a*2^n=c at*
 unfold i79
 cases aU:b' a<;>rw[aU] at t3
 · skip
   refine al [0,1,2,4,5,6,8,33] fun F=>?_
   simp only[ak]
   intro f0 f1 f2 f4 f5 f6 f8 f33
   simp[a8] at f0 f1 f2 f4 f5 f6 f8 f33
   repeat' (first
    | refine ax ?_
    | ((fail_if_success (refine aQ ?_));(fail_if_success (refine aR ?_));refine aL ?_)
    | ((first|(refine az aM ?_;simp(disch:=omega) [aU,t1,t2,t3,fl,f0,f1,f2,f4,f5,f6,f8,f33];(try(refine⟨by first|decide|rfl,?_⟩)))|(refine aK ?_;simp(disch:=omega) [aU,t1,t2,t3,fl,f0,f1,f2,f4,f5,f6,f8,f33]));(try(refine al [0,1,2,4,5,6,8,33] ?_;intro F;simp only[ak];intro U ab aa ad ah ag ao s';simp(disch:=omega) [aU,t1,t2,t3,fl,f0,f1,f2,f4,f5,f6,f8,f33] at U ab aa ad ah ag ao s';clear f0 f1 f2 f4 f5 f6 f8 f33;have f0:=U;have f1:=ab;have f2:=aa;have f4:=ad;have f5:=ah;have f6:=ag;have f8:=ao;have f33:=s';clear U ab aa ad ah ag ao s')))
    | (refine aJ _ (by simp(disch:=omega) [aU,t1,t2,t3,fl,f0,f1,f2,f4,f5,f6,f8,f33];rfl) (fun I=>?_) (fun I=>?_)<;>first|(exfalso;simp(disch:=omega) [aU,t1,t2,t3,fl] at I;done)|(exfalso;simp at I;omega)|(simp at I))
    | ((first|refine aH ?_|refine aN ?_);simp(disch:=omega) [aU,t1,t2,t3,fl,f0,f1,f2,f4,f5,f6,f8,f33]))
 · skip
   refine al [0,1,2,4,5,6,8,33] fun F=>?_
   simp only[ak]
   intro f0 f1 f2 f4 f5 f6 f8 f33
   simp[a8] at f0 f1 f2 f4 f5 f6 f8 f33
   repeat' (first
    | refine ax ?_
    | ((fail_if_success (refine aQ ?_));(fail_if_success (refine aR ?_));refine aL ?_)
    | ((first|(refine az aM ?_;simp(disch:=omega) [aU,t1,t2,t3,fl,f0,f1,f2,f4,f5,f6,f8,f33];(try(refine⟨by first|decide|rfl,?_⟩)))|(refine aK ?_;simp(disch:=omega) [aU,t1,t2,t3,fl,f0,f1,f2,f4,f5,f6,f8,f33]));(try(refine al [0,1,2,4,5,6,8,33] ?_;intro F;simp only[ak];intro U ab aa ad ah ag ao s';simp(disch:=omega) [aU,t1,t2,t3,fl,f0,f1,f2,f4,f5,f6,f8,f33] at U ab aa ad ah ag ao s';clear f0 f1 f2 f4 f5 f6 f8 f33;have f0:=U;have f1:=ab;have f2:=aa;have f4:=ad;have f5:=ah;have f6:=ag;have f8:=ao;have f33:=s';clear U ab aa ad ah ag ao s')))
    | (refine aJ _ (by simp(disch:=omega) [aU,t1,t2,t3,fl,f0,f1,f2,f4,f5,f6,f8,f33];rfl) (fun I=>?_) (fun I=>?_)<;>first|(exfalso;simp(disch:=omega) [aU,t1,t2,t3,fl] at I;done)|(exfalso;simp at I;omega)|(simp at I))
    | ((first|refine aH ?_|refine aN ?_);simp(disch:=omega) [aU,t1,t2,t3,fl,f0,f1,f2,f4,f5,f6,f8,f33]))
end
end
end Go.Proofs.YtcikknajimdjoaaGreatDoor
