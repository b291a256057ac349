/- What the claim needs of the walks, put together by a program (shake.py). -/
import Derived.Test.YtemiagcencajeaaGreatDoorCtF
set_option maxRecDepth 100000
set_option linter.unusedSimpArgs false
set_option linter.unusedVariables false
set_option linter.unusedSectionVars false
namespace Go.Proofs.YtemiagcencajeaaGreatDoor
section
set_option maxHeartbeats 8000000
open Go Go.Eng Go.RowKit
theorem QY (a b:Int):dK (bK a != bK b) (a.natAbs*b.natAbs)=a*b:=by
 have bh:=q7 a
 have aj:=q7 b
 generalize a.natAbs=m at*
 generalize b.natAbs=k at*
 generalize bK a=s at*
 generalize bK b=t at*
 subst bh aj
 cases s<;>cases t<;>simp[dK,Int.neg_mul,Int.mul_neg]
theorem QZ (a:Int) (n:Nat):dK (bK a) (a.natAbs*2^n)=a*2^n:=by
 have h:=q7 a
 generalize a.natAbs=m at*
 generalize bK a=s at*
 subst h
 cases s<;>simp[dK,Int.neg_mul]
end
section
set_option maxHeartbeats 8000000
open Go Go.Eng Go.RowKit
attribute [local simp] bx.m bx.o bx.n bx.g gZ eQ df c7 dj evalOp.eq_1 evalOp.eq_2 evalOp.eq_3 evalOp.eq_4 evalOp.eq_5 evalOp.eq_6 evalOp.eq_7 evalOp.eq_8 evalOp.eq_9 evalOp.eq_10 evalOp.eq_11 evalOp.eq_12 evalOp.eq_13 evalOp.eq_14 evalOp.eq_15 evalOp.eq_16 evalOp.eq_17 evalOp.eq_18 evalOp.eq_19 evalOp.eq_20 evalOp.eq_21 evalOp.eq_22 evalOp.eq_23 evalOp.eq_24 evalOp.eq_25 evalOp.eq_27 evalOp.eq_28 evalOp.eq_29 jK bf.ev c6 aF aA.new bj J.cells J.c0 J.ew J.eA hF hH hG hI hK hJ iX iY iZ gm gn cut partOf bound elems ja jb jc jd je jf jg jh ji jj jk jl g2 jm jn jo jq jr js jt ju jv jw jx jy jz jA jB jC jD jE jF jG jH jI jJ eP eJ eB fA hL g0 aA.close aA.set hr jL jM jN i' g1 gv fT fs gf hn gM gg ho hp hq fx fy fz fv hM bY hj hN hk hO hP fq hQ fr hR hS hT gd iW hU hV hW hX hY hZ h0 h1 h3 h4 h5 h6 h7 h8 h9 h_ h' ia ib hl ic ie ig ih ij ik il im iq ir iu iv iw ix iy
attribute [local simp high] iT iU iV iz iA iB iC iD iE iF iG iH iI iJ iK iL iM iN iO iP iQ iR iS
attribute [local simp] aJ List.getElem?_cons_zero List.getElem?_cons_succ eH dp fP Nat.mod_eq_of_lt jY jZ j0 j1 fU j2 j3 j4
section
attribute [local irreducible] ck
attribute [local simp] ed ef dm Hq Hr Hs Ht Hu Hv Hw Hx Hy Hz
def xq (k:Nat) (cs:List Nat) (i:Nat) (s:a'):Prop:=∃e,s.F 29=cF (ah (mD k cs i)) e
theorem Q0 {k:Nat} {cs:List Nat} (aV:cs.length=5) (aE:k<=200000) (aG:∀x∈cs,(ah x).length<=1000000):∀i,i<5->(∀e,g5 [cF (ah (mD k cs i)) e,aw (aS cs i*2^(32*k*i))]=some (aw (mD k cs (i+1))))/\lB [aw (aS cs i),bt (32*k*i)]=some (aw (aS cs i*2^(32*k*i))):=by
 have aj:∀i,i<=5->(ah (mD k cs i)).length<=i*4000000:=by
  intro i
  induction i with
  | zero=>intro _;simp[mD,fu]
  | succ i bC=>
    intro ag
    have ab:=bC (by omega)
    have h2:=aG _ (zG (l:=cs) (i:=i) (by omega))
    have aX:=kP (aS cs i) (2^(32*k*i))
    have aW:(ah (2^(32*k*i))).length<=k*i+1:=c5.2 (by rw[show 32*k*i=32*(k*i) by rw[Nat.mul_assoc],<-lf,ee];have:=g3 (k*i);omega)
    have cL:=kk (mD k cs i) (aS cs i*2^(32*k*i))
    have fo:k*i<=200000*5:=Nat.mul_le_mul aE (by omega)
    show (ah (mD k cs i+aS cs i*2^(32*k*i))).length<=_
    omega
 intro i ag
 have ab:=aj i (by omega)
 have h2:=aG _ (zG (l:=cs) (i:=i) (by omega))
 have aX:=kP (aS cs i) (2^(32*k*i))
 have aW:(ah (2^(32*k*i))).length<=k*i+1:=c5.2 (by rw[show 32*k*i=32*(k*i) by rw[Nat.mul_assoc],<-lf,ee];have:=g3 (k*i);omega)
 have fo:k*i<=200000*5:=Nat.mul_le_mul aE (by omega)
 have CV:32*k*i=32*(k*i):=Nat.mul_assoc ..
 exact⟨fun e=>mr (by omega) (by omega),q6 (by omega) (by omega)⟩
theorem Q1:br Tryz.prog G 201 vd:=by
 refine QU fun N bC=>?_
 refine cG mixed (QV bC) E4 fun z aP=>?_
 obtain⟨a,b⟩:=z
 obtain⟨⟨cE,bU⟩,eN⟩:=aP
 simp only at cE bU eN|-
 obtain⟨L,a8⟩:∃L,L=(ah a).length:=⟨_,rfl⟩
 obtain⟨M,ep⟩:∃M,M=(ah b).length:=⟨_,rfl⟩
 obtain⟨n,ar⟩:∃n,n=max L M:=⟨_,rfl⟩
 have bJ:=uX L M
 have ca:=sH L M
 rw[<-ar] at bJ
 rw[<-a8] at eN
 rw[<-ep] at eN
 have aI:a<ay n:=c5.1 (by omega)
 have a6:b<ay n:=c5.1 (by omega)
 by_cases e7:min L M<7
 · have t:=GX (a,b) ⟨by simp only;omega,by simp only;omega⟩ (args:=[aw a,aw b]) (by simp)
   simp only at t
   generalize a*b=c at*
   unfold i201
   refine ao [0,1,4,5,6,7,8,9,10,11,12,13,14,15,16,17,18,19,20,21,22,23,24,25,26,27,28,29,30,31,42,97,131,132,133,134] fun F=>?_
   simp only[an]
   intro f0 f1 f4 f5 f6 f7 f8 f9 f10 f11 f12 f13 f14 f15 f16 f17 f18 f19 f20 f21 f22 f23 f24 f25 f26 f27 f28 f29 f30 f31 f42 f97 f131 f132 f133 f134
   simp[bj] at f0 f1 f4 f5 f6 f7 f8 f9 f10 f11 f12 f13 f14 f15 f16 f17 f18 f19 f20 f21 f22 f23 f24 f25 f26 f27 f28 f29 f30 f31 f42 f97 f131 f132 f133 f134
   repeat' (first
    | refine aC ?_
    | ((fail_if_success (refine aT ?_));(fail_if_success (refine aU ?_));refine aO ?_)
    | ((first|(refine aD cr ?_;simp(disch:=omega) [<-a8,<-ep,bJ,ca,e7,t,f0,f1,f4,f5,f6,f7,f8,f9,f10,f11,f12,f13,f14,f15,f16,f17,f18,f19,f20,f21,f22,f23,f24,f25,f26,f27,f28,f29,f30,f31,f42,f97,f131,f132,f133,f134];(try(refine⟨by first|decide|rfl,?_⟩)))|(refine aM ?_;simp(disch:=omega) [<-a8,<-ep,bJ,ca,e7,t,f0,f1,f4,f5,f6,f7,f8,f9,f10,f11,f12,f13,f14,f15,f16,f17,f18,f19,f20,f21,f22,f23,f24,f25,f26,f27,f28,f29,f30,f31,f42,f97,f131,f132,f133,f134]));(try(refine ao [0,1,4,5,6,7,8,9,10,11,12,13,14,15,16,17,18,19,20,21,22,23,24,25,26,27,28,29,30,31,42,97,131,132,133,134] ?_;intro F;simp only[an];intro U aa ad ae ai au az a2 a5 bl a9 aY bq bD b9 cB bG ds b8 d_ cc ej cA bo bB bL ek dE cN e0 nU nV e1 e2 e3 e4;simp(disch:=omega) [<-a8,<-ep,bJ,ca,e7,t,f0,f1,f4,f5,f6,f7,f8,f9,f10,f11,f12,f13,f14,f15,f16,f17,f18,f19,f20,f21,f22,f23,f24,f25,f26,f27,f28,f29,f30,f31,f42,f97,f131,f132,f133,f134] at U aa ad ae ai au az a2 a5 bl a9 aY bq bD b9 cB bG ds b8 d_ cc ej cA bo bB bL ek dE cN e0 nU nV e1 e2 e3 e4;clear f0 f1 f4 f5 f6 f7 f8 f9 f10 f11 f12 f13 f14 f15 f16 f17 f18 f19 f20 f21 f22 f23 f24 f25 f26 f27 f28 f29 f30 f31 f42 f97 f131 f132 f133 f134;have f0:=U;have f1:=aa;have f4:=ad;have f5:=ae;have f6:=ai;have f7:=au;have f8:=az;have f9:=a2;have f10:=a5;have f11:=bl;have f12:=a9;have f13:=aY;have f14:=bq;have f15:=bD;have f16:=b9;have f17:=cB;have f18:=bG;have f19:=ds;have f20:=b8;have f21:=d_;have f22:=cc;have f23:=ej;have f24:=cA;have f25:=bo;have f26:=bB;have f27:=bL;have f28:=ek;have f29:=dE;have f30:=cN;have f31:=e0;have f42:=nU;have f97:=nV;have f131:=e1;have f132:=e2;have f133:=e3;have f134:=e4;clear U aa ad ae ai au az a2 a5 bl a9 aY bq bD b9 cB bG ds b8 d_ cc ej cA bo bB bL ek dE cN e0 nU nV e1 e2 e3 e4)))
    | (refine aL _ (by simp(disch:=omega) [<-a8,<-ep,bJ,ca,e7,t,f0,f1,f4,f5,f6,f7,f8,f9,f10,f11,f12,f13,f14,f15,f16,f17,f18,f19,f20,f21,f22,f23,f24,f25,f26,f27,f28,f29,f30,f31,f42,f97,f131,f132,f133,f134];rfl) (fun I=>?_) (fun I=>?_)<;>first|(exfalso;simp(disch:=omega) [<-a8,<-ep,bJ,ca,e7,t] at I;done)|(exfalso;simp at I;omega)|(simp at I))
    | ((first|refine aH ?_|refine aQ ?_);simp(disch:=omega) [<-a8,<-ep,bJ,ca,e7,t,f0,f1,f4,f5,f6,f7,f8,f9,f10,f11,f12,f13,f14,f15,f16,f17,f18,f19,f20,f21,f22,f23,f24,f25,f26,f27,f28,f29,f30,f31,f42,f97,f131,f132,f133,f134]))
 · obtain⟨k,aE⟩:∃k,k=(n+2)/3:=⟨_,rfl⟩
   have lR:k+1<n:=by omega
   have kz:k<=200000:=by omega
   have xr:∀x,x<ay n->x=x%ay k+ay k*(x%ay (2*k)/ay k+ay k*(x%ay n/ay (2*k)))/\(ah (x%ay k)).length<=k/\(ah (x%ay (2*k)/ay k)).length<=k/\(ah (x%ay n/ay (2*k))).length<=k:=fun x ak=>by
    rw[Nat.mod_eq_of_lt ak]
    refine⟨?_,c5.2 (Nat.mod_lt _ (g3 k)),c5.2 ?_,c5.2 ?_⟩
    · rw[show 2*k=k+k by omega,gw,<-Nat.div_div_eq_div_mul,Nat.mod_mul_right_div_self,Nat.mod_add_div,Nat.mod_add_div]
    · rw[show 2*k=k+k by omega,gw,Nat.mod_mul_right_div_self];exact Nat.mod_lt _ (g3 k)
    · rw[Nat.div_lt_iff_lt_mul (g3 _),<-gw]
      exact Nat.lt_of_lt_of_le ak (l6 (by omega))
   have xt:=fun(h:aA) p q ab h2 aX aW cL=>HA N [] h (a:=a) (k:=k) (n:=n) (p:=p) (q:=q) ab h2 aX aW cL (by omega) (by omega) (by omega)
   have xu:=fun(h:aA) p q ab h2 aX aW cL=>HA N [] h (a:=b) (k:=k) (n:=n) (p:=p) (q:=q) ab h2 aX aW cL (by omega) (by omega) (by omega)
   have main:∃x0 x1 x2 y0 y1 dU a1 am eC b1 AF da b5 eR dY dc cz cq db dg:Nat,∃vf vg:Bool,a%ay k=x0/\a%ay (2*k)/ay k=x1/\a%ay n/ay (2*k)=x2/\b%ay k=y0/\b%ay (2*k)/ay k=y1/\b%ay n/ay (2*k)=dU/\
    s6 [.agg [aw x0,aw x1,aw x2]]=some (.ch [aw a1,aw am,aw eC,.bool vf])/\s6 [.agg [aw y0,aw y1,aw dU]]=some (.ch [aw b1,aw AF,aw da,.bool vg])/\
    nT N [aw x0,aw y0]=some (aw dc)/\nT N [aw x2,aw dU]=some (aw dg)/\nT N [aw a1,aw b1]=some (aw b5)/\nT N [aw am,aw AF]=some (aw eR)/\nT N [aw eC,aw da]=some (aw dY)/\
    (∃E O u v1 v2 nS v4 pc v6 p_ p' qa b4 dd:Nat,g5 [aw b5,aw eR]=some (aw b4)/\kG [aw b5,aw eR]=some (aw dd)/\((vf=vg/\b4=E/\dd=O)\/(vf≠vg/\dd=E/\b4=O))/\lQ [aw E,bt 1]=some (aw v4)/\lQ [aw O,bt 1]=some (aw nS)/\g5 [aw dc,aw dg]=some (aw qa)/\kG [aw v4,aw qa]=some (aw cq)/\
      lB [aw cq,bt 2]=some (aw p_)/\lB [aw dg,bt 4]=some (aw p')/\g5 [aw p_,aw p']=some (aw v6)/\g5 [aw dc,aw v6]=some (aw pc)/\kG [aw dY,aw pc]=some (aw u)/\lQ [aw u,bt 1]=some (aw v2)/\kG [aw v2,aw nS]=some (aw v1)/\rf [aw v1]=some (aw db)/\kG [aw nS,aw db]=some (aw cz))/\
    mD k [dc,cz,cq,db,dg] 5=a*b/\∀x∈ [dc,cz,cq,db,dg],(ah x).length<=1000000:=by
    obtain⟨Q2,Q3,Q4,Q5⟩:=xr a aI
    obtain⟨qb,Q6,Q7,Q8⟩:=xr b a6
    clear xr xt xu bJ ca a8 ep
    generalize a%ay k=x0 at*
    generalize a%ay (2*k)/ay k=x1 at*
    generalize a%ay n/ay (2*k)=x2 at*
    generalize b%ay k=y0 at*
    generalize b%ay (2*k)/ay k=y1 at*
    generalize b%ay n/ay (2*k)=dU at*
    have fin:=QS k x0 x1 x2 y0 y1 dU
    rw[<-Q2,<-qb] at fin
    obtain⟨E,O,b5,eR,dY,dc,cz,cq,db,dg,u,wV,tc,om,hb,rm,aG,bA,h2,hu,AB,aX,ab,te,aa,af,al⟩:=QP x0 x1 x2 y0 y1 dU
    obtain⟨rb,Wy,Wz⟩:=HB x0 x1 x2 Q3 Q4 Q5
    obtain⟨re,WA,WB⟩:=HB y0 y1 dU Q6 Q7 Q8
    have b1:=kP (x0+x2+x1) (y0+dU+y1)
    have eD:=kP (x0+(x1*2^1+x2*2^2)) (y0+(y1*2^1+dU*2^2))
    rw[<-wV] at b1
    rw[<-om] at eD
    have two:(ah 2).length<=1:=c5.2 (by rw[sE];decide)
    have bz:=kP 2 b5
    have bR:=kk (2*b5) dY
    have aP:(ah (2*b5+dY)).length<=1000000:=by omega
    rw[<-hb,<-aa,<-af,<-al,<-rm] at fin
    obtain⟨v1,v2,nS,v4,pc,v6,p_,p',qa,dy,dB,ga⟩:=QR aP te h2 hu AB aX ab
    refine⟨x0,x1,x2,y0,y1,dU,_,_,_,_,_,_,b5,eR,dY,dc,cz,cq,db,dg,_,_,rfl,rfl,rfl,rfl,rfl,rfl,
     G2 (x0,x1,x2) ⟨by show (ah x0).length<=_;omega,by show (ah x1).length<=_;omega,by show (ah x2).length<=_;omega⟩ (by simp),G2 (y0,y1,dU) ⟨by show (ah y0).length<=_;omega,by show (ah y1).length<=_;omega,by show (ah dU).length<=_;omega⟩ (by simp),?_,?_,?_,?_,?_,⟨E,O,u,v1,v2,nS,v4,pc,v6,p_,p',qa,_,_,dy,dB,?_,ga⟩,fin,fun x ak=>?_⟩
    · rw[hb];exact ve (x0,y0) ⟨⟨by simp only;omega,by simp only;omega⟩,by simp only;omega⟩ (by simp)
    · rw[rm];exact ve (x2,dU) ⟨⟨by simp only;omega,by simp only;omega⟩,by simp only;omega⟩ (by simp)
    · rw[wV];exact ve (x0+x2+x1,y0+dU+y1) ⟨⟨by simp only;omega,by simp only;omega⟩,by simp only;omega⟩ (by simp)
    · rw[tc];exact ve (lS x0 x1 x2,lS y0 y1 dU) ⟨⟨by simp only;omega,by simp only;omega⟩,by simp only;omega⟩ (by simp)
    · rw[om];exact ve (x0+(x1*2^1+x2*2^2),y0+(y1*2^1+dU*2^2)) ⟨⟨by simp only;omega,by simp only;omega⟩,by simp only;omega⟩ (by simp)
    · by_cases h:decide (x0+x2<x1)=decide (y0+dU<y1)
      · exact .inl ⟨h,aG h⟩
      · exact .inr ⟨h,bA h⟩
    · have AG:x<=2*b5+dY:=te x (by simp only[List.mem_cons,List.not_mem_nil,or_false] at ak|-;rcases ak with rfl|rfl|rfl|rfl|rfl<;>simp)
      exact Nat.le_trans (fW AG) aP
   obtain⟨x0,x1,x2,y0,y1,dU,a1,am,eC,b1,AF,da,b5,eR,dY,dc,cz,cq,db,dg,vf,vg,bV,aq,aB,bg,bT,dv,nf,ng,t0,t4,t1,t2,t3,⟨E,O,u,v1,v2,nS,v4,pc,v6,p_,p',qa,b4,dd,s1,s2,Q9,eT,j_,gy,gz,j7,gA,nh,ni,l8,km,nj,nk,nm⟩,fin,cy⟩:=main
   have k9:=Q0 (k:=k) (cs:=[dc,cz,cq,db,dg]) rfl kz cy
   rw[bV,aq,aB] at xt
   rw[bg,bT,dv] at xu
   clear bV aq aB bg bT dv xr aI a6 cy
   have dz:(n+2)/3=k:=aE.symm
   have HC:∀i,i<5->IntKind.i64.wrap (Z 32*Z k)=Z (32*k)/\IntKind.i64.wrap (Z (32*k)*Z i)=Z (32*k*i):=fun i ag=>⟨sy (by omega),sy (by have:32*k*i<=32*200000*5:=Nat.mul_le_mul (Nat.mul_le_mul_left 32 kz) (by omega);omega)⟩
   have mF:=xt ⟨aF (aF (aF (aF (fun _=>none) 6 (some [bt 0])) 6 (some [bt n])) 17 (some [bt 0])) 17 (some [bt k]),fun _=>false,31,fun _=>none⟩ 17 6 (by simp[aF]) (by simp[aF]) (by show 17<31;decide) (by show 6<31;decide) rfl
   have mG:=xu ⟨aF (aF (aF (aF (aF (aF (fun _=>none) 6 (some [bt 0])) 6 (some [bt n])) 17 (some [bt 0])) 17 (some [bt k])) 31 (some [.agg [.sl [] true,.sl [] true,.sl [] true]])) 31 (some [.agg [aw x0,aw x1,aw x2]]),fun _=>false,47,fun _=>none⟩ 17 6 (by simp[aF]) (by simp[aF]) (by show 17<47;decide) (by show 6<47;decide) rfl
   dsimp only at mF mG
   clear xt xu
   rw[<-fin]
   unfold i201
   rcases Q9 with⟨ab,h2,aX⟩|⟨ab,h2,aX⟩
   · subst ab h2 aX
     refine ao [0,1,4,5,6,7,8,9,10,11,12,13,14,15,16,17,18,19,20,21,22,23,24,25,26,27,28,29,30,31,42,97,131,132,133,134] fun F=>?_
     simp only[an]
     intro f0 f1 f4 f5 f6 f7 f8 f9 f10 f11 f12 f13 f14 f15 f16 f17 f18 f19 f20 f21 f22 f23 f24 f25 f26 f27 f28 f29 f30 f31 f42 f97 f131 f132 f133 f134
     simp[bj] at f0 f1 f4 f5 f6 f7 f8 f9 f10 f11 f12 f13 f14 f15 f16 f17 f18 f19 f20 f21 f22 f23 f24 f25 f26 f27 f28 f29 f30 f31 f42 f97 f131 f132 f133 f134
     repeat' (first
      | refine aC ?_
      | ((fail_if_success (refine aT ?_));(fail_if_success (refine aU ?_));refine aO ?_)
      | ((first|(refine aD cr ?_;simp(disch:=omega) [<-a8,<-ep,bJ,ca,e7,dz,mF,mG,nf,ng,t0,t4,t1,t2,t3,s1,s2,eT,j_,gy,gz,j7,gA,nh,ni,l8,km,nj,nk,nm,kS,kT,kU,f0,f1,f4,f5,f6,f7,f8,f9,f10,f11,f12,f13,f14,f15,f16,f17,f18,f19,f20,f21,f22,f23,f24,f25,f26,f27,f28,f29,f30,f31,f42,f97,f131,f132,f133,f134];(try(refine⟨by first|decide|rfl,?_⟩)))|(refine aM ?_;simp(disch:=omega) [<-a8,<-ep,bJ,ca,e7,dz,mF,mG,nf,ng,t0,t4,t1,t2,t3,s1,s2,eT,j_,gy,gz,j7,gA,nh,ni,l8,km,nj,nk,nm,kS,kT,kU,f0,f1,f4,f5,f6,f7,f8,f9,f10,f11,f12,f13,f14,f15,f16,f17,f18,f19,f20,f21,f22,f23,f24,f25,f26,f27,f28,f29,f30,f31,f42,f97,f131,f132,f133,f134]));(try(refine ao [0,1,4,5,6,7,8,9,10,11,12,13,14,15,16,17,18,19,20,21,22,23,24,25,26,27,28,29,30,31,42,97,131,132,133,134] ?_;intro F;simp only[an];intro U aa ad ae ai au az a2 a5 bl a9 aY bq bD b9 cB bG ds b8 d_ cc ej cA bo bB bL ek dE cN e0 nU nV e1 e2 e3 e4;simp(disch:=omega) [<-a8,<-ep,bJ,ca,e7,dz,mF,mG,nf,ng,t0,t4,t1,t2,t3,s1,s2,eT,j_,gy,gz,j7,gA,nh,ni,l8,km,nj,nk,nm,kS,kT,kU,f0,f1,f4,f5,f6,f7,f8,f9,f10,f11,f12,f13,f14,f15,f16,f17,f18,f19,f20,f21,f22,f23,f24,f25,f26,f27,f28,f29,f30,f31,f42,f97,f131,f132,f133,f134] at U aa ad ae ai au az a2 a5 bl a9 aY bq bD b9 cB bG ds b8 d_ cc ej cA bo bB bL ek dE cN e0 nU nV e1 e2 e3 e4;clear f0 f1 f4 f5 f6 f7 f8 f9 f10 f11 f12 f13 f14 f15 f16 f17 f18 f19 f20 f21 f22 f23 f24 f25 f26 f27 f28 f29 f30 f31 f42 f97 f131 f132 f133 f134;have f0:=U;have f1:=aa;have f4:=ad;have f5:=ae;have f6:=ai;have f7:=au;have f8:=az;have f9:=a2;have f10:=a5;have f11:=bl;have f12:=a9;have f13:=aY;have f14:=bq;have f15:=bD;have f16:=b9;have f17:=cB;have f18:=bG;have f19:=ds;have f20:=b8;have f21:=d_;have f22:=cc;have f23:=ej;have f24:=cA;have f25:=bo;have f26:=bB;have f27:=bL;have f28:=ek;have f29:=dE;have f30:=cN;have f31:=e0;have f42:=nU;have f97:=nV;have f131:=e1;have f132:=e2;have f133:=e3;have f134:=e4;clear U aa ad ae ai au az a2 a5 bl a9 aY bq bD b9 cB bG ds b8 d_ cc ej cA bo bB bL ek dE cN e0 nU nV e1 e2 e3 e4)))
      | (refine aL _ (by simp(disch:=omega) [<-a8,<-ep,bJ,ca,e7,dz,mF,mG,nf,ng,t0,t4,t1,t2,t3,s1,s2,eT,j_,gy,gz,j7,gA,nh,ni,l8,km,nj,nk,nm,kS,kT,kU,f0,f1,f4,f5,f6,f7,f8,f9,f10,f11,f12,f13,f14,f15,f16,f17,f18,f19,f20,f21,f22,f23,f24,f25,f26,f27,f28,f29,f30,f31,f42,f97,f131,f132,f133,f134];rfl) (fun I=>?_) (fun I=>?_)<;>first|(exfalso;simp(disch:=omega) [<-a8,<-ep,bJ,ca,e7,dz,mF,mG,nf,ng,t0,t4,t1,t2,t3,s1,s2,eT,j_,gy,gz,j7,gA,nh,ni,l8,km,nj,nk,nm,kS,kT,kU] at I;done)|(exfalso;simp at I;omega)|(simp at I))
      | ((first|refine aH ?_|refine aQ ?_);simp(disch:=omega) [<-a8,<-ep,bJ,ca,e7,dz,mF,mG,nf,ng,t0,t4,t1,t2,t3,s1,s2,eT,j_,gy,gz,j7,gA,nh,ni,l8,km,nj,nk,nm,kS,kT,kU,f0,f1,f4,f5,f6,f7,f8,f9,f10,f11,f12,f13,f14,f15,f16,f17,f18,f19,f20,f21,f22,f23,f24,f25,f26,f27,f28,f29,f30,f31,f42,f97,f131,f132,f133,f134]))
     generalize AH: [aw dc,aw cz,aw cq,aw db,aw dg]=AI at*
     have uG:∀i,i<5->AI[i]? =some (aw (aS [dc,cz,cq,db,dg] i)):=fun i ag=>by
      rw[<-AH]
      rcases show i=0\/i=1\/i=2\/i=3\/i=4 by omega with rfl|rfl|rfl|rfl|rfl<;>rfl
     generalize oR: [dc,cz,cq,db,dg]=cs at*
     refine kO 5 (fun i s=>xq k cs i s/\s.F 133=bt i/\s.h.cells 17=some [bt k]) (xq k cs 5) (fun _=>False) ?_ ?_ ?_ (fun _ _ h=>h.elim)
     · exact⟨⟨true,by rw[mD,fu];exact f29⟩,f133,by simp[aF]⟩
     · rintro i s ag rn ⟨⟨e,rp⟩,AJ,mH⟩
       have aE:=rn
       replace f6:=(aE 6 rfl).trans f6;replace f131:=(aE 131 rfl).trans f131;replace f132:=(aE 132 rfl).trans f132
       clear f29 f133 rn
       have f29:=rp
       have f133:=AJ
       refine ao [6,29,30,31,131,132,133,134] ?_
       intro F
       simp only[an]
       intro ai dE cN e0 e1 e2 e3 e4
       try simp[aJ,f6,f29,f131,f132,f133] at ai dE cN e0 e1 e2 e3 e4
       clear f6 f29 f131 f132 f133
       have f6:=ai
       have f29:=dE
       have f30:=cN
       have f31:=e0
       have f131:=e1
       have f132:=e2
       have f133:=e3
       have f134:=e4
       clear ai dE cN e0 e1 e2 e3 e4
       by_cases cL:i<5
       · have gk:(Z i<(5:Int))=True:=eq_true (by simp only[Z];omega)
         have ge:=uG i cL
         obtain⟨cP,dR⟩:=k9 i cL
         have cP:=cP e
         obtain⟨eV,fL⟩:=HC i cL
         have mI:IntKind.i64.wrap (Z i+Z 1)=Z (i+1):=eH (by omega)
         generalize aS cs i=ci at*
         generalize 32*k*i=AK at*
         generalize ci*2^AK=Q_ at*
         repeat' (first
          | refine aC ?_
          | ((fail_if_success (refine aT ?_));(fail_if_success (refine aU ?_));refine aO ?_)
          | ((first|(refine aD cr ?_;simp(disch:=omega) [gk,ge,cP,dR,eV,fL,mH,cL,mI,f6,f29,f30,f31,f131,f132,f133,f134];(try(refine⟨by first|decide|rfl,?_⟩)))|(refine aM ?_;simp(disch:=omega) [gk,ge,cP,dR,eV,fL,mH,cL,mI,f6,f29,f30,f31,f131,f132,f133,f134]));(try(refine ao [6,29,30,31,131,132,133,134] ?_;intro F;simp only[an];intro ai dE cN e0 e1 e2 e3 e4;simp(disch:=omega) [gk,ge,cP,dR,eV,fL,mH,cL,mI,f6,f29,f30,f31,f131,f132,f133,f134] at ai dE cN e0 e1 e2 e3 e4;clear f6 f29 f30 f31 f131 f132 f133 f134;have f6:=ai;have f29:=dE;have f30:=cN;have f31:=e0;have f131:=e1;have f132:=e2;have f133:=e3;have f134:=e4;clear ai dE cN e0 e1 e2 e3 e4)))
          | (refine aL _ (by simp(disch:=omega) [gk,ge,cP,dR,eV,fL,mH,cL,mI,f6,f29,f30,f31,f131,f132,f133,f134];rfl) (fun I=>?_) (fun I=>?_)<;>first|(exfalso;simp(disch:=omega) [gk,ge,cP,dR,eV,fL,mH,cL,mI] at I;done)|(exfalso;simp at I;omega)|(simp at I))
          | ((first|refine aH ?_|refine aQ ?_);simp(disch:=omega) [gk,ge,cP,dR,eV,fL,mH,cL,mI,f6,f29,f30,f31,f131,f132,f133,f134]))
         exact⟨false,f29⟩
       · have gk:(Z i<(5:Int))=False:=eq_false (by simp only[Z];omega)
         obtain rfl:i=5:=by omega
         repeat' (first
          | refine aC ?_
          | ((fail_if_success (refine aT ?_));(fail_if_success (refine aU ?_));refine aO ?_)
          | ((first|(refine aD cr ?_;simp(disch:=omega) [gk,f6,f29,f30,f31,f131,f132,f133,f134];(try(refine⟨by first|decide|rfl,?_⟩)))|(refine aM ?_;simp(disch:=omega) [gk,f6,f29,f30,f31,f131,f132,f133,f134]));(try(refine ao [6,29,30,31,131,132,133,134] ?_;intro F;simp only[an];intro ai dE cN e0 e1 e2 e3 e4;simp(disch:=omega) [gk,f6,f29,f30,f31,f131,f132,f133,f134] at ai dE cN e0 e1 e2 e3 e4;clear f6 f29 f30 f31 f131 f132 f133 f134;have f6:=ai;have f29:=dE;have f30:=cN;have f31:=e0;have f131:=e1;have f132:=e2;have f133:=e3;have f134:=e4;clear ai dE cN e0 e1 e2 e3 e4)))
          | (refine aL _ (by simp(disch:=omega) [gk,f6,f29,f30,f31,f131,f132,f133,f134];rfl) (fun I=>?_) (fun I=>?_)<;>first|(exfalso;simp(disch:=omega) [gk] at I;done)|(exfalso;simp at I;omega)|(simp at I))
          | ((first|refine aH ?_|refine aQ ?_);simp(disch:=omega) [gk,f6,f29,f30,f31,f131,f132,f133,f134]))
         exact⟨e,f29⟩
     · rintro s rn ⟨e,rp⟩
       clear f29 f133
       have f29:=rp
       refine ao [4,29] ?_
       intro F
       simp only[an]
       intro ad dE
       try simp[aJ,f29] at ad dE
       clear f29
       have f4:=ad
       have f29:=dE
       clear ad dE
       repeat' (first
        | refine aC ?_
        | ((fail_if_success (refine aT ?_));(fail_if_success (refine aU ?_));refine aO ?_)
        | ((first|(refine aD cr ?_;simp(disch:=omega) [f4,f29];(try(refine⟨by first|decide|rfl,?_⟩)))|(refine aM ?_;simp(disch:=omega) [f4,f29]));(try(refine ao [4,29] ?_;intro F;simp only[an];intro ad dE;simp(disch:=omega) [f4,f29] at ad dE;clear f4 f29;have f4:=ad;have f29:=dE;clear ad dE)))
        | (refine aL _ (by simp(disch:=omega) [f4,f29];rfl) (fun I=>?_) (fun I=>?_)<;>first|(exfalso;simp(disch:=omega) at I;done)|(exfalso;simp at I;omega)|(simp at I))
        | ((first|refine aH ?_|refine aQ ?_);simp(disch:=omega) [f4,f29]))
   · subst h2 aX
     have aj:(vf == vg)=false:=by simpa using ab
     refine ao [0,1,4,5,6,7,8,9,10,11,12,13,14,15,16,17,18,19,20,21,22,23,24,25,26,27,28,29,30,31,42,97,131,132,133,134] fun F=>?_
     simp only[an]
     intro f0 f1 f4 f5 f6 f7 f8 f9 f10 f11 f12 f13 f14 f15 f16 f17 f18 f19 f20 f21 f22 f23 f24 f25 f26 f27 f28 f29 f30 f31 f42 f97 f131 f132 f133 f134
     simp[bj] at f0 f1 f4 f5 f6 f7 f8 f9 f10 f11 f12 f13 f14 f15 f16 f17 f18 f19 f20 f21 f22 f23 f24 f25 f26 f27 f28 f29 f30 f31 f42 f97 f131 f132 f133 f134
     repeat' (first
      | refine aC ?_
      | ((fail_if_success (refine aT ?_));(fail_if_success (refine aU ?_));refine aO ?_)
      | ((first|(refine aD cr ?_;simp(disch:=omega) [<-a8,<-ep,bJ,ca,e7,aj,dz,mF,mG,nf,ng,t0,t4,t1,t2,t3,s1,s2,eT,j_,gy,gz,j7,gA,nh,ni,l8,km,nj,nk,nm,kS,kT,kU,f0,f1,f4,f5,f6,f7,f8,f9,f10,f11,f12,f13,f14,f15,f16,f17,f18,f19,f20,f21,f22,f23,f24,f25,f26,f27,f28,f29,f30,f31,f42,f97,f131,f132,f133,f134];(try(refine⟨by first|decide|rfl,?_⟩)))|(refine aM ?_;simp(disch:=omega) [<-a8,<-ep,bJ,ca,e7,aj,dz,mF,mG,nf,ng,t0,t4,t1,t2,t3,s1,s2,eT,j_,gy,gz,j7,gA,nh,ni,l8,km,nj,nk,nm,kS,kT,kU,f0,f1,f4,f5,f6,f7,f8,f9,f10,f11,f12,f13,f14,f15,f16,f17,f18,f19,f20,f21,f22,f23,f24,f25,f26,f27,f28,f29,f30,f31,f42,f97,f131,f132,f133,f134]));(try(refine ao [0,1,4,5,6,7,8,9,10,11,12,13,14,15,16,17,18,19,20,21,22,23,24,25,26,27,28,29,30,31,42,97,131,132,133,134] ?_;intro F;simp only[an];intro U aa ad ae ai au az a2 a5 bl a9 aY bq bD b9 cB bG ds b8 d_ cc ej cA bo bB bL ek dE cN e0 nU nV e1 e2 e3 e4;simp(disch:=omega) [<-a8,<-ep,bJ,ca,e7,aj,dz,mF,mG,nf,ng,t0,t4,t1,t2,t3,s1,s2,eT,j_,gy,gz,j7,gA,nh,ni,l8,km,nj,nk,nm,kS,kT,kU,f0,f1,f4,f5,f6,f7,f8,f9,f10,f11,f12,f13,f14,f15,f16,f17,f18,f19,f20,f21,f22,f23,f24,f25,f26,f27,f28,f29,f30,f31,f42,f97,f131,f132,f133,f134] at U aa ad ae ai au az a2 a5 bl a9 aY bq bD b9 cB bG ds b8 d_ cc ej cA bo bB bL ek dE cN e0 nU nV e1 e2 e3 e4;clear f0 f1 f4 f5 f6 f7 f8 f9 f10 f11 f12 f13 f14 f15 f16 f17 f18 f19 f20 f21 f22 f23 f24 f25 f26 f27 f28 f29 f30 f31 f42 f97 f131 f132 f133 f134;have f0:=U;have f1:=aa;have f4:=ad;have f5:=ae;have f6:=ai;have f7:=au;have f8:=az;have f9:=a2;have f10:=a5;have f11:=bl;have f12:=a9;have f13:=aY;have f14:=bq;have f15:=bD;have f16:=b9;have f17:=cB;have f18:=bG;have f19:=ds;have f20:=b8;have f21:=d_;have f22:=cc;have f23:=ej;have f24:=cA;have f25:=bo;have f26:=bB;have f27:=bL;have f28:=ek;have f29:=dE;have f30:=cN;have f31:=e0;have f42:=nU;have f97:=nV;have f131:=e1;have f132:=e2;have f133:=e3;have f134:=e4;clear U aa ad ae ai au az a2 a5 bl a9 aY bq bD b9 cB bG ds b8 d_ cc ej cA bo bB bL ek dE cN e0 nU nV e1 e2 e3 e4)))
      | (refine aL _ (by simp(disch:=omega) [<-a8,<-ep,bJ,ca,e7,aj,dz,mF,mG,nf,ng,t0,t4,t1,t2,t3,s1,s2,eT,j_,gy,gz,j7,gA,nh,ni,l8,km,nj,nk,nm,kS,kT,kU,f0,f1,f4,f5,f6,f7,f8,f9,f10,f11,f12,f13,f14,f15,f16,f17,f18,f19,f20,f21,f22,f23,f24,f25,f26,f27,f28,f29,f30,f31,f42,f97,f131,f132,f133,f134];rfl) (fun I=>?_) (fun I=>?_)<;>first|(exfalso;simp(disch:=omega) [<-a8,<-ep,bJ,ca,e7,aj,dz,mF,mG,nf,ng,t0,t4,t1,t2,t3,s1,s2,eT,j_,gy,gz,j7,gA,nh,ni,l8,km,nj,nk,nm,kS,kT,kU] at I;done)|(exfalso;simp at I;omega)|(simp at I))
      | ((first|refine aH ?_|refine aQ ?_);simp(disch:=omega) [<-a8,<-ep,bJ,ca,e7,aj,dz,mF,mG,nf,ng,t0,t4,t1,t2,t3,s1,s2,eT,j_,gy,gz,j7,gA,nh,ni,l8,km,nj,nk,nm,kS,kT,kU,f0,f1,f4,f5,f6,f7,f8,f9,f10,f11,f12,f13,f14,f15,f16,f17,f18,f19,f20,f21,f22,f23,f24,f25,f26,f27,f28,f29,f30,f31,f42,f97,f131,f132,f133,f134]))
     generalize AH: [aw dc,aw cz,aw cq,aw db,aw dg]=AI at*
     have uG:∀i,i<5->AI[i]? =some (aw (aS [dc,cz,cq,db,dg] i)):=fun i ag=>by
      rw[<-AH]
      rcases show i=0\/i=1\/i=2\/i=3\/i=4 by omega with rfl|rfl|rfl|rfl|rfl<;>rfl
     generalize oR: [dc,cz,cq,db,dg]=cs at*
     refine kO 5 (fun i s=>xq k cs i s/\s.F 133=bt i/\s.h.cells 17=some [bt k]) (xq k cs 5) (fun _=>False) ?_ ?_ ?_ (fun _ _ h=>h.elim)
     · exact⟨⟨true,by rw[mD,fu];exact f29⟩,f133,by simp[aF]⟩
     · rintro i s ag rn ⟨⟨e,rp⟩,AJ,mH⟩
       have aE:=rn
       replace f6:=(aE 6 rfl).trans f6;replace f131:=(aE 131 rfl).trans f131;replace f132:=(aE 132 rfl).trans f132
       clear f29 f133 rn
       have f29:=rp
       have f133:=AJ
       refine ao [6,29,30,31,131,132,133,134] ?_
       intro F
       simp only[an]
       intro ai dE cN e0 e1 e2 e3 e4
       try simp[aJ,f6,f29,f131,f132,f133] at ai dE cN e0 e1 e2 e3 e4
       clear f6 f29 f131 f132 f133
       have f6:=ai
       have f29:=dE
       have f30:=cN
       have f31:=e0
       have f131:=e1
       have f132:=e2
       have f133:=e3
       have f134:=e4
       clear ai dE cN e0 e1 e2 e3 e4
       by_cases cL:i<5
       · have gk:(Z i<(5:Int))=True:=eq_true (by simp only[Z];omega)
         have ge:=uG i cL
         obtain⟨cP,dR⟩:=k9 i cL
         have cP:=cP e
         obtain⟨eV,fL⟩:=HC i cL
         have mI:IntKind.i64.wrap (Z i+Z 1)=Z (i+1):=eH (by omega)
         generalize aS cs i=ci at*
         generalize 32*k*i=AK at*
         generalize ci*2^AK=Q_ at*
         repeat' (first
          | refine aC ?_
          | ((fail_if_success (refine aT ?_));(fail_if_success (refine aU ?_));refine aO ?_)
          | ((first|(refine aD cr ?_;simp(disch:=omega) [gk,ge,cP,dR,eV,fL,mH,cL,mI,f6,f29,f30,f31,f131,f132,f133,f134];(try(refine⟨by first|decide|rfl,?_⟩)))|(refine aM ?_;simp(disch:=omega) [gk,ge,cP,dR,eV,fL,mH,cL,mI,f6,f29,f30,f31,f131,f132,f133,f134]));(try(refine ao [6,29,30,31,131,132,133,134] ?_;intro F;simp only[an];intro ai dE cN e0 e1 e2 e3 e4;simp(disch:=omega) [gk,ge,cP,dR,eV,fL,mH,cL,mI,f6,f29,f30,f31,f131,f132,f133,f134] at ai dE cN e0 e1 e2 e3 e4;clear f6 f29 f30 f31 f131 f132 f133 f134;have f6:=ai;have f29:=dE;have f30:=cN;have f31:=e0;have f131:=e1;have f132:=e2;have f133:=e3;have f134:=e4;clear ai dE cN e0 e1 e2 e3 e4)))
          | (refine aL _ (by simp(disch:=omega) [gk,ge,cP,dR,eV,fL,mH,cL,mI,f6,f29,f30,f31,f131,f132,f133,f134];rfl) (fun I=>?_) (fun I=>?_)<;>first|(exfalso;simp(disch:=omega) [gk,ge,cP,dR,eV,fL,mH,cL,mI] at I;done)|(exfalso;simp at I;omega)|(simp at I))
          | ((first|refine aH ?_|refine aQ ?_);simp(disch:=omega) [gk,ge,cP,dR,eV,fL,mH,cL,mI,f6,f29,f30,f31,f131,f132,f133,f134]))
         exact⟨false,f29⟩
       · have gk:(Z i<(5:Int))=False:=eq_false (by simp only[Z];omega)
         obtain rfl:i=5:=by omega
         repeat' (first
          | refine aC ?_
          | ((fail_if_success (refine aT ?_));(fail_if_success (refine aU ?_));refine aO ?_)
          | ((first|(refine aD cr ?_;simp(disch:=omega) [gk,f6,f29,f30,f31,f131,f132,f133,f134];(try(refine⟨by first|decide|rfl,?_⟩)))|(refine aM ?_;simp(disch:=omega) [gk,f6,f29,f30,f31,f131,f132,f133,f134]));(try(refine ao [6,29,30,31,131,132,133,134] ?_;intro F;simp only[an];intro ai dE cN e0 e1 e2 e3 e4;simp(disch:=omega) [gk,f6,f29,f30,f31,f131,f132,f133,f134] at ai dE cN e0 e1 e2 e3 e4;clear f6 f29 f30 f31 f131 f132 f133 f134;have f6:=ai;have f29:=dE;have f30:=cN;have f31:=e0;have f131:=e1;have f132:=e2;have f133:=e3;have f134:=e4;clear ai dE cN e0 e1 e2 e3 e4)))
          | (refine aL _ (by simp(disch:=omega) [gk,f6,f29,f30,f31,f131,f132,f133,f134];rfl) (fun I=>?_) (fun I=>?_)<;>first|(exfalso;simp(disch:=omega) [gk] at I;done)|(exfalso;simp at I;omega)|(simp at I))
          | ((first|refine aH ?_|refine aQ ?_);simp(disch:=omega) [gk,f6,f29,f30,f31,f131,f132,f133,f134]))
         exact⟨e,f29⟩
     · rintro s rn ⟨e,rp⟩
       clear f29 f133
       have f29:=rp
       refine ao [4,29] ?_
       intro F
       simp only[an]
       intro ad dE
       try simp[aJ,f29] at ad dE
       clear f29
       have f4:=ad
       have f29:=dE
       clear ad dE
       repeat' (first
        | refine aC ?_
        | ((fail_if_success (refine aT ?_));(fail_if_success (refine aU ?_));refine aO ?_)
        | ((first|(refine aD cr ?_;simp(disch:=omega) [f4,f29];(try(refine⟨by first|decide|rfl,?_⟩)))|(refine aM ?_;simp(disch:=omega) [f4,f29]));(try(refine ao [4,29] ?_;intro F;simp only[an];intro ad dE;simp(disch:=omega) [f4,f29] at ad dE;clear f4 f29;have f4:=ad;have f29:=dE;clear ad dE)))
        | (refine aL _ (by simp(disch:=omega) [f4,f29];rfl) (fun I=>?_) (fun I=>?_)<;>first|(exfalso;simp(disch:=omega) at I;done)|(exfalso;simp at I;omega)|(simp at I))
        | ((first|refine aH ?_|refine aQ ?_);simp(disch:=omega) [f4,f29]))
end
section
attribute [local irreducible] ck
attribute [local simp] ed ef dm
noncomputable def vh:FuncId->Option (List J->Option J):=dn [(203,sZ),(202,q'),(201,vd)]
theorem Q':∀f T,vh f=some T->br Tryz.prog G f T:=dr (by simp only[List.forall_mem_cons];exact⟨GU,GY,Q1,fun _ h=>absurd h (by simp)⟩)
theorem Ra:vh 203=some sZ:=rfl
theorem Rb:vh 202=some q':=rfl
theorem Rc:vh 201=some vd:=rfl
theorem Rd:vh 200=none:=rfl
attribute [local simp] Ra Rb Rc Rd
noncomputable def tf:List J->Option J:=cd (fun z:Nat × Nat=>(ah z.1).length<=500000/\(ah z.2).length<=500000/\min (ah z.1).length (ah z.2).length<48) (fun z=>[aw z.1,aw z.2]) (fun z=>aw (z.1*z.2))
theorem xv (z:Nat × Nat) (h:(ah z.1).length<=500000/\(ah z.2).length<=500000/\min (ah z.1).length (ah z.2).length<48) {args:List J} (he:args.map J.loose= [aw z.1,aw z.2]):tf args=some (aw (z.1*z.2)):=cU (fun z w h=>by first|(simp only[List.cons.injEq,J.int.injEq,J.bool.injEq,J.sl.injEq,cl,cm,ct,cu,cp,b2,b6,cn,bY,true_and,and_true] at h;simp[h];done)|(simp only[J.agg.injEq,List.cons.injEq,J.int.injEq,J.bool.injEq,J.sl.injEq,cl,cm,ct,cu,cp,b2,b6,cn,bY,true_and,and_true] at h;simp[h])) z h he
theorem HD:br Tryz.prog G 137 tf:=by
 refine cG mixed Q' EL fun z aP=>?_
 obtain⟨a,b⟩:=z
 obtain⟨cE,bU,nA⟩:=aP
 simp only at cE bU nA|-
 have t1:=GS (a,b) ⟨by simp only;omega,by simp only;omega⟩ (args:=[aw a,aw b]) (by simp)
 have t2:=GX (a,b) ⟨by simp only;omega,by simp only;omega⟩ (args:=[aw a,aw b]) (by simp)
 have t3:=QT (a,b) ⟨cE,bU⟩ (args:=[aw a,aw b]) (by simp)
 simp only at t1 t2 t3
 have m:=sH (ah a).length (ah b).length
 generalize min (ah a).length (ah b).length=k at*
 generalize a*b=c at*
 obtain⟨W,ly⟩:∃W:List J,W= [.agg [.int .i64 (Z 48),.fn 200 [] []],.agg [.int .i64 (Z 14),.fn 201 [] []],.agg [.int .i64 (Z 8),.fn 202 [] []]]:=⟨_,rfl⟩
 have kF:W[0]? =some (.agg [.int .i64 (Z 48),.fn 200 [] []]):=by rw[ly];rfl
 have bz:W[1]? =some (.agg [.int .i64 (Z 14),.fn 201 [] []]):=by rw[ly];rfl
 have bR:W[2]? =some (.agg [.int .i64 (Z 8),.fn 202 [] []]):=by rw[ly];rfl
 unfold i137
 refine ao [0,1,4,6,10,11,12,13,23] fun F=>?_
 simp only[an]
 intro f0 f1 f4 f6 f10 f11 f12 f13 f23
 simp[bj] at f0 f1 f4 f6 f10 f11 f12 f13 f23
 repeat' (first
  | refine aC ?_
  | ((fail_if_success (refine aT ?_));(fail_if_success (refine aU ?_));refine aO ?_)
  | ((first|(refine aD aN ?_;simp(disch:=omega) [m,f0,f1,f4,f6,f10,f11,f12,f13,f23];(try(refine⟨by first|decide|rfl,?_⟩)))|(refine aM ?_;simp(disch:=omega) [m,f0,f1,f4,f6,f10,f11,f12,f13,f23]));(try(refine ao [0,1,4,6,10,11,12,13,23] ?_;intro F;simp only[an];intro U aa ad ai a5 bl a9 aY ej;simp(disch:=omega) [m,f0,f1,f4,f6,f10,f11,f12,f13,f23] at U aa ad ai a5 bl a9 aY ej;clear f0 f1 f4 f6 f10 f11 f12 f13 f23;have f0:=U;have f1:=aa;have f4:=ad;have f6:=ai;have f10:=a5;have f11:=bl;have f12:=a9;have f13:=aY;have f23:=ej;clear U aa ad ai a5 bl a9 aY ej)))
  | (refine aL _ (by simp(disch:=omega) [m,f0,f1,f4,f6,f10,f11,f12,f13,f23];rfl) (fun I=>?_) (fun I=>?_)<;>first|(exfalso;simp(disch:=omega) [m] at I;done)|(exfalso;simp at I;omega)|(simp at I))
  | ((first|refine aH ?_|refine aQ ?_);simp(disch:=omega) [m,f0,f1,f4,f6,f10,f11,f12,f13,f23]))
 have HE:F 10= .sl W true:=by rw[f10,ly]
 have HF:F 11=bt 3:=f11
 clear f10 f11
 have f10:=HE
 have f11:=HF
 clear HE HF ly
 refine kO 3 (fun i s=>s.F 12=bt i/\(∀j,s.h.shut j=false)/\(0<i->k<48)/\(1<i->k<14)/\(2<i->k<8)) (fun s=>True) (fun s=>s.F 4=aw c) ?_ ?_ ?_ ?_
 · exact⟨f12,fun _=>rfl,by omega,by omega,by omega⟩
 · rintro i s ag aE ⟨nc,bZ,ab,h2,aX⟩
   replace f0:=(aE 0 rfl).trans f0;replace f1:=(aE 1 rfl).trans f1;replace f10:=(aE 10 rfl).trans f10;replace f11:=(aE 11 rfl).trans f11
   clear f12
   have f12:=nc
   refine ao [0,1,4,6,10,11,12,13,23] ?_
   intro F
   simp only[an]
   intro U aa ad ai a5 bl a9 aY ej
   try simp[aJ,f0,f1,f10,f11,f12] at U aa ad ai a5 bl a9 aY ej
   clear f0 f1 f10 f11 f12
   have f0:=U
   have f1:=aa
   have f4:=ad
   have f6:=ai
   have f10:=a5
   have f11:=bl
   have f12:=a9
   have f13:=aY
   have f23:=ej
   clear U aa ad ai a5 bl a9 aY ej
   rcases show i=0\/i=1\/i=2\/i=3 by omega with rfl|rfl|rfl|rfl
   · skip
     repeat' (first
      | refine aC ?_
      | ((fail_if_success (refine aT ?_));(fail_if_success (refine aU ?_));refine aO ?_)
      | ((first|(refine aD aN ?_;simp(disch:=omega) [bZ,kF,m,nA,f0,f1,f4,f6,f10,f11,f12,f13,f23];(try(refine⟨by first|decide|rfl,?_⟩)))|(refine aM ?_;simp(disch:=omega) [bZ,kF,m,nA,f0,f1,f4,f6,f10,f11,f12,f13,f23]));(try(refine ao [0,1,4,6,10,11,12,13,23] ?_;intro F;simp only[an];intro U aa ad ai a5 bl a9 aY ej;simp(disch:=omega) [bZ,kF,m,nA,f0,f1,f4,f6,f10,f11,f12,f13,f23] at U aa ad ai a5 bl a9 aY ej;clear f0 f1 f4 f6 f10 f11 f12 f13 f23;have f0:=U;have f1:=aa;have f4:=ad;have f6:=ai;have f10:=a5;have f11:=bl;have f12:=a9;have f13:=aY;have f23:=ej;clear U aa ad ai a5 bl a9 aY ej)))
      | (refine aL _ (by simp(disch:=omega) [bZ,kF,m,nA,f0,f1,f4,f6,f10,f11,f12,f13,f23];rfl) (fun I=>?_) (fun I=>?_)<;>first|(exfalso;simp(disch:=omega) [bZ,kF,m,nA] at I;done)|(exfalso;simp at I;omega)|(simp at I))
      | ((first|refine aH ?_|refine aQ ?_);simp(disch:=omega) [bZ,kF,m,nA,f0,f1,f4,f6,f10,f11,f12,f13,f23]))
   · by_cases kY:k<14
     · skip
       repeat' (first
        | refine aC ?_
        | ((fail_if_success (refine aT ?_));(fail_if_success (refine aU ?_));refine aO ?_)
        | ((first|(refine aD aN ?_;simp(disch:=omega) [bZ,bz,m,kY,f0,f1,f4,f6,f10,f11,f12,f13,f23];(try(refine⟨by first|decide|rfl,?_⟩)))|(refine aM ?_;simp(disch:=omega) [bZ,bz,m,kY,f0,f1,f4,f6,f10,f11,f12,f13,f23]));(try(refine ao [0,1,4,6,10,11,12,13,23] ?_;intro F;simp only[an];intro U aa ad ai a5 bl a9 aY ej;simp(disch:=omega) [bZ,bz,m,kY,f0,f1,f4,f6,f10,f11,f12,f13,f23] at U aa ad ai a5 bl a9 aY ej;clear f0 f1 f4 f6 f10 f11 f12 f13 f23;have f0:=U;have f1:=aa;have f4:=ad;have f6:=ai;have f10:=a5;have f11:=bl;have f12:=a9;have f13:=aY;have f23:=ej;clear U aa ad ai a5 bl a9 aY ej)))
        | (refine aL _ (by simp(disch:=omega) [bZ,bz,m,kY,f0,f1,f4,f6,f10,f11,f12,f13,f23];rfl) (fun I=>?_) (fun I=>?_)<;>first|(exfalso;simp(disch:=omega) [bZ,bz,m,kY] at I;done)|(exfalso;simp at I;omega)|(simp at I))
        | ((first|refine aH ?_|refine aQ ?_);simp(disch:=omega) [bZ,bz,m,kY,f0,f1,f4,f6,f10,f11,f12,f13,f23]))
     · skip
       repeat' (first
        | refine aC ?_
        | ((fail_if_success (refine aT ?_));(fail_if_success (refine aU ?_));refine aO ?_)
        | ((first|(refine aD aN ?_;simp(disch:=omega) [bZ,bz,m,kY,t3,f0,f1,f4,f6,f10,f11,f12,f13,f23];(try(refine⟨by first|decide|rfl,?_⟩)))|(refine aM ?_;simp(disch:=omega) [bZ,bz,m,kY,t3,f0,f1,f4,f6,f10,f11,f12,f13,f23]));(try(refine ao [0,1,4,6,10,11,12,13,23] ?_;intro F;simp only[an];intro U aa ad ai a5 bl a9 aY ej;simp(disch:=omega) [bZ,bz,m,kY,t3,f0,f1,f4,f6,f10,f11,f12,f13,f23] at U aa ad ai a5 bl a9 aY ej;clear f0 f1 f4 f6 f10 f11 f12 f13 f23;have f0:=U;have f1:=aa;have f4:=ad;have f6:=ai;have f10:=a5;have f11:=bl;have f12:=a9;have f13:=aY;have f23:=ej;clear U aa ad ai a5 bl a9 aY ej)))
        | (refine aL _ (by simp(disch:=omega) [bZ,bz,m,kY,t3,f0,f1,f4,f6,f10,f11,f12,f13,f23];rfl) (fun I=>?_) (fun I=>?_)<;>first|(exfalso;simp(disch:=omega) [bZ,bz,m,kY,t3] at I;done)|(exfalso;simp at I;omega)|(simp at I))
        | ((first|refine aH ?_|refine aQ ?_);simp(disch:=omega) [bZ,bz,m,kY,t3,f0,f1,f4,f6,f10,f11,f12,f13,f23]))
   · by_cases nn:k<8
     · skip
       repeat' (first
        | refine aC ?_
        | ((fail_if_success (refine aT ?_));(fail_if_success (refine aU ?_));refine aO ?_)
        | ((first|(refine aD aN ?_;simp(disch:=omega) [bZ,bR,m,nn,f0,f1,f4,f6,f10,f11,f12,f13,f23];(try(refine⟨by first|decide|rfl,?_⟩)))|(refine aM ?_;simp(disch:=omega) [bZ,bR,m,nn,f0,f1,f4,f6,f10,f11,f12,f13,f23]));(try(refine ao [0,1,4,6,10,11,12,13,23] ?_;intro F;simp only[an];intro U aa ad ai a5 bl a9 aY ej;simp(disch:=omega) [bZ,bR,m,nn,f0,f1,f4,f6,f10,f11,f12,f13,f23] at U aa ad ai a5 bl a9 aY ej;clear f0 f1 f4 f6 f10 f11 f12 f13 f23;have f0:=U;have f1:=aa;have f4:=ad;have f6:=ai;have f10:=a5;have f11:=bl;have f12:=a9;have f13:=aY;have f23:=ej;clear U aa ad ai a5 bl a9 aY ej)))
        | (refine aL _ (by simp(disch:=omega) [bZ,bR,m,nn,f0,f1,f4,f6,f10,f11,f12,f13,f23];rfl) (fun I=>?_) (fun I=>?_)<;>first|(exfalso;simp(disch:=omega) [bZ,bR,m,nn] at I;done)|(exfalso;simp at I;omega)|(simp at I))
        | ((first|refine aH ?_|refine aQ ?_);simp(disch:=omega) [bZ,bR,m,nn,f0,f1,f4,f6,f10,f11,f12,f13,f23]))
     · skip
       repeat' (first
        | refine aC ?_
        | ((fail_if_success (refine aT ?_));(fail_if_success (refine aU ?_));refine aO ?_)
        | ((first|(refine aD aN ?_;simp(disch:=omega) [bZ,bR,m,nn,t2,f0,f1,f4,f6,f10,f11,f12,f13,f23];(try(refine⟨by first|decide|rfl,?_⟩)))|(refine aM ?_;simp(disch:=omega) [bZ,bR,m,nn,t2,f0,f1,f4,f6,f10,f11,f12,f13,f23]));(try(refine ao [0,1,4,6,10,11,12,13,23] ?_;intro F;simp only[an];intro U aa ad ai a5 bl a9 aY ej;simp(disch:=omega) [bZ,bR,m,nn,t2,f0,f1,f4,f6,f10,f11,f12,f13,f23] at U aa ad ai a5 bl a9 aY ej;clear f0 f1 f4 f6 f10 f11 f12 f13 f23;have f0:=U;have f1:=aa;have f4:=ad;have f6:=ai;have f10:=a5;have f11:=bl;have f12:=a9;have f13:=aY;have f23:=ej;clear U aa ad ai a5 bl a9 aY ej)))
        | (refine aL _ (by simp(disch:=omega) [bZ,bR,m,nn,t2,f0,f1,f4,f6,f10,f11,f12,f13,f23];rfl) (fun I=>?_) (fun I=>?_)<;>first|(exfalso;simp(disch:=omega) [bZ,bR,m,nn,t2] at I;done)|(exfalso;simp at I;omega)|(simp at I))
        | ((first|refine aH ?_|refine aQ ?_);simp(disch:=omega) [bZ,bR,m,nn,t2,f0,f1,f4,f6,f10,f11,f12,f13,f23]))
   · skip
     repeat' (first
      | refine aC ?_
      | ((fail_if_success (refine aT ?_));(fail_if_success (refine aU ?_));refine aO ?_)
      | ((first|(refine aD aN ?_;simp(disch:=omega) [f0,f1,f4,f6,f10,f11,f12,f13,f23];(try(refine⟨by first|decide|rfl,?_⟩)))|(refine aM ?_;simp(disch:=omega) [f0,f1,f4,f6,f10,f11,f12,f13,f23]));(try(refine ao [0,1,4,6,10,11,12,13,23] ?_;intro F;simp only[an];intro U aa ad ai a5 bl a9 aY ej;simp(disch:=omega) [f0,f1,f4,f6,f10,f11,f12,f13,f23] at U aa ad ai a5 bl a9 aY ej;clear f0 f1 f4 f6 f10 f11 f12 f13 f23;have f0:=U;have f1:=aa;have f4:=ad;have f6:=ai;have f10:=a5;have f11:=bl;have f12:=a9;have f13:=aY;have f23:=ej;clear U aa ad ai a5 bl a9 aY ej)))
      | (refine aL _ (by simp(disch:=omega) [f0,f1,f4,f6,f10,f11,f12,f13,f23];rfl) (fun I=>?_) (fun I=>?_)<;>first|(exfalso;simp(disch:=omega) at I;done)|(exfalso;simp at I;omega)|(simp at I))
      | ((first|refine aH ?_|refine aQ ?_);simp(disch:=omega) [f0,f1,f4,f6,f10,f11,f12,f13,f23]))
 · rintro s aE -
   replace f0:=(aE 0 rfl).trans f0;replace f1:=(aE 1 rfl).trans f1
   clear f12
   refine ao [0,1,4] ?_
   intro F
   simp only[an]
   intro U aa ad
   try simp[aJ,f0,f1] at U aa ad
   clear f0 f1
   have f0:=U
   have f1:=aa
   have f4:=ad
   clear U aa ad
   repeat' (first
    | refine aC ?_
    | ((fail_if_success (refine aT ?_));(fail_if_success (refine aU ?_));refine aO ?_)
    | ((first|(refine aD aN ?_;simp(disch:=omega) [t1,f0,f1,f4];(try(refine⟨by first|decide|rfl,?_⟩)))|(refine aM ?_;simp(disch:=omega) [t1,f0,f1,f4]));(try(refine ao [0,1,4] ?_;intro F;simp only[an];intro U aa ad;simp(disch:=omega) [t1,f0,f1,f4] at U aa ad;clear f0 f1 f4;have f0:=U;have f1:=aa;have f4:=ad;clear U aa ad)))
    | (refine aL _ (by simp(disch:=omega) [t1,f0,f1,f4];rfl) (fun I=>?_) (fun I=>?_)<;>first|(exfalso;simp(disch:=omega) [t1] at I;done)|(exfalso;simp at I;omega)|(simp at I))
    | ((first|refine aH ?_|refine aQ ?_);simp(disch:=omega) [t1,f0,f1,f4]))
 · rintro s aE aW
   simp[aW]
end
section
attribute [local irreducible] ck
attribute [local simp] ed ef dm
noncomputable def HG:FuncId->Option (List J->Option J):=dn [(137,tf)]
theorem Re:∀f T,HG f=some T->br Tryz.prog G f T:=dr (by simp only[List.forall_mem_cons];exact⟨HD,fun _ h=>absurd h (by simp)⟩)
theorem Rf:HG 137=some tf:=rfl
attribute [local simp] Rf
theorem Rg {x y:Nat} (ak:x≠0) (bd:y≠0):(ah x).length+(ah y).length<=(ah (x*y)).length+1:=by
 have ab:=mo.2 ak
 have h2:=mo.2 bd
 have aX:ay ((ah x).length - 1)<=x:=zI.1 (by omega)
 have aW:ay ((ah y).length - 1)<=y:=zI.1 (by omega)
 have cL:=Nat.mul_le_mul aX aW
 rw[<-gw] at cL
 have:=zI.2 cL
 omega
theorem HH {x y R:Nat} (h:x*y<=R) (dI:(ah R).length<=94):min (ah x).length (ah y).length<48:=by
 by_cases ak:x=0
 · subst ak;rw[fu];simp
 by_cases bd:y=0
 · subst bd;rw[fu];simp
 have ab:=Rg ak bd
 have h2:=fW h
 omega
def HI (a n m:Nat) (s:a'):Prop:=∃o b e,o*b^m=a^n/\(ah o).length<=94/\(ah b).length<=94/\(a=0->b=0)/\s.F 5=cF (ah o) e/\s.F 0=aw b/\s.F 1=bt m
theorem Rh {o b m R:Nat} (h:o*b^m=R) (hm:m%2=1):(o*b)*(b*b)^(m/2)=R:=by
 have e:m=2*(m/2)+1:=by omega
 rw[<-h]
 generalize m/2=k at*
 subst e
 rw[Nat.pow_succ,Nat.pow_mul,Nat.pow_two,Nat.mul_assoc,Nat.mul_comm b]
theorem Ri {o b m R:Nat} (h:o*b^m=R) (hm:m%2=0):o*(b*b)^(m/2)=R:=by
 have e:m=2*(m/2):=by omega
 rw[<-h]
 generalize m/2=k at*
 subst e
 rw[Nat.pow_mul,Nat.pow_two]
theorem HJ {x y R:Nat} (h:x*y=R) (dI:R≠0):x<=R:=by
 rw[<-h];exact Nat.le_mul_of_pos_right _ (Nat.pos_of_ne_zero fun aJ=>dI (by rw[<-h,aJ,Nat.mul_zero]))
theorem HK {a n:Nat} (h:a^n=0):a=0:=Decidable.byContradiction fun bh=>absurd h (Nat.ne_of_gt (Nat.pow_pos (Nat.pos_of_ne_zero bh)))
noncomputable def AL:List J->Option J:=cd (fun z:Nat × Nat=>(ah z.1).length<=94/\z.2<9223372036854775808/\(ah (z.1^z.2)).length<=94) (fun z=>[aw z.1,bt z.2]) (fun z=>aw (z.1^z.2))
theorem Rj:br Tryz.prog G 152 AL:=by
 refine cG mixed Re EP fun z aP=>?_
 obtain⟨a,n⟩:=z
 obtain⟨cE,ar,sM⟩:=aP
 simp only at cE ar sM|-
 unfold i152
 refine ao [0,1,4,5,8,13,18] fun F=>?_
 simp only[an]
 intro f0 f1 f4 f5 f8 f13 f18
 simp[bj] at f0 f1 f4 f5 f8 f13 f18
 repeat' (first
  | refine aC ?_
  | ((fail_if_success (refine aT ?_));(fail_if_success (refine aU ?_));refine aO ?_)
  | ((first|(refine aD aN ?_;simp(disch:=omega) [f0,f1,f4,f5,f8,f13,f18];(try(refine⟨by first|decide|rfl,?_⟩)))|(refine aM ?_;simp(disch:=omega) [f0,f1,f4,f5,f8,f13,f18]));(try(refine ao [0,1,4,5,8,13,18] ?_;intro F;simp only[an];intro U aa ad ae az aY bG;simp(disch:=omega) [f0,f1,f4,f5,f8,f13,f18] at U aa ad ae az aY bG;clear f0 f1 f4 f5 f8 f13 f18;have f0:=U;have f1:=aa;have f4:=ad;have f5:=ae;have f8:=az;have f13:=aY;have f18:=bG;clear U aa ad ae az aY bG)))
  | (refine aL _ (by simp(disch:=omega) [f0,f1,f4,f5,f8,f13,f18];rfl) (fun I=>?_) (fun I=>?_)<;>first|(exfalso;simp(disch:=omega) at I;done)|(exfalso;simp at I;omega)|(simp at I))
  | ((first|refine aH ?_|refine aQ ?_);simp(disch:=omega) [f0,f1,f4,f5,f8,f13,f18]))
 refine oh (fun m s=>m<9223372036854775808/\HI a n m s) (HI a n 0) (fun _=>False) n ?_ ?_ ?_ (fun _ _ h=>h.elim)
 · exact⟨ar,1,a,true,Nat.one_mul _,by rw[nL];decide,cE,fun h=>h,by show F 5=_;rw[f5,nL];rfl,f0,f1⟩
 · rintro m s aE ⟨hm,o,b,e,aR,cH,bU,e_,ez,kF,bz⟩
   clear f0 f1 f5
   have f0:=kF
   have f1:=bz
   have f5:=ez
   refine ao [0,1,5,8,13,18] ?_
   intro F
   simp only[an]
   intro U aa ae az aY bG
   try simp[aJ,f0,f1,f5] at U aa ae az aY bG
   clear f0 f1 f5
   have f0:=U
   have f1:=aa
   have f5:=ae
   have f8:=az
   have f13:=aY
   have f18:=bG
   clear U aa ae az aY bG
   have k0:(m&&&1)=m%2:=Nat.and_one_is_mod m
   have bZ:min 1 64=1:=by decide
   by_cases lz:m=0
   · subst lz
     repeat' (first
      | refine aC ?_
      | ((fail_if_success (refine aT ?_));(fail_if_success (refine aU ?_));refine aO ?_)
      | ((first|(refine aD aN ?_;simp(disch:=omega) [f0,f1,f5,f8,f13,f18];(try(refine⟨by first|decide|rfl,?_⟩)))|(refine aM ?_;simp(disch:=omega) [f0,f1,f5,f8,f13,f18]));(try(refine ao [0,1,5,8,13,18] ?_;intro F;simp only[an];intro U aa ae az aY bG;simp(disch:=omega) [f0,f1,f5,f8,f13,f18] at U aa ae az aY bG;clear f0 f1 f5 f8 f13 f18;have f0:=U;have f1:=aa;have f5:=ae;have f8:=az;have f13:=aY;have f18:=bG;clear U aa ae az aY bG)))
      | (refine aL _ (by simp(disch:=omega) [f0,f1,f5,f8,f13,f18];rfl) (fun I=>?_) (fun I=>?_)<;>first|(exfalso;simp(disch:=omega) at I;done)|(exfalso;simp at I;omega)|(simp at I))
      | ((first|refine aH ?_|refine aQ ?_);simp(disch:=omega) [f0,f1,f5,f8,f13,f18]))
     exact⟨o,b,e,aR,cH,bU,e_,f5,f0,f1⟩
   · have eL:0<m:=by omega
     have ug:∀R,o*b^m=R->R≠0->1<m->b*b<=R:=fun R h dI j'=>by
      have aj:b≠0:=fun aJ=>dI (by rw[<-h,aJ,Nat.zero_pow (by omega),Nat.mul_zero])
      have ab:b^m<=R:=by rw[Nat.mul_comm] at h;exact HJ h dI
      have h2:b^2<=b^m:=Nat.pow_le_pow_right (by omega) j'
      rw[Nat.pow_two] at h2
      omega
     have lA:1<m->min (ah b).length (ah b).length<48/\(ah (b*b)).length<=94:=fun j'=>by
      by_cases dI:a^n=0
      · have:=e_ (HK dI)
        subst this
        rw[Nat.zero_mul,fu];simp
      · have:=ug _ aR dI j'
        exact⟨HH this sM,Nat.le_trans (fW this) sM⟩
     by_cases rq:m%2=1
     · have xw:=Rh aR rq
       have AM:min (ah o).length (ah b).length<48/\(ah (o*b)).length<=94:=by
        by_cases dI:a^n=0
        · have:=e_ (HK dI)
          subst this
          rw[Nat.mul_zero,fu];simp
        · have:=HJ xw dI
          exact⟨HH this sM,Nat.le_trans (fW this) sM⟩
       have t1:=xv (o,b) ⟨by simp only;omega,by simp only;omega,AM.1⟩ (args:=[cF (ah o) e,aw b]) (by simp)
       simp only at t1
       by_cases j':1<m
       · have t2:=xv (b,b) ⟨by simp only;omega,by simp only;omega,(lA j').1⟩ (args:=[aw b,aw b]) (by simp)
         have dy:=(lA j').2
         simp only at t2
         generalize HL:o*b=AN at*
         generalize AO:b*b=da at*
         repeat' (first
          | refine aC ?_
          | ((fail_if_success (refine aT ?_));(fail_if_success (refine aU ?_));refine aO ?_)
          | ((first|(refine aD aN ?_;simp(disch:=omega) [eL,k0,rq,j',bZ,t1,t2,f0,f1,f5,f8,f13,f18];(try(refine⟨by first|decide|rfl,?_⟩)))|(refine aM ?_;simp(disch:=omega) [eL,k0,rq,j',bZ,t1,t2,f0,f1,f5,f8,f13,f18]));(try(refine ao [0,1,5,8,13,18] ?_;intro F;simp only[an];intro U aa ae az aY bG;simp(disch:=omega) [eL,k0,rq,j',bZ,t1,t2,f0,f1,f5,f8,f13,f18] at U aa ae az aY bG;clear f0 f1 f5 f8 f13 f18;have f0:=U;have f1:=aa;have f5:=ae;have f8:=az;have f13:=aY;have f18:=bG;clear U aa ae az aY bG)))
          | (refine aL _ (by simp(disch:=omega) [eL,k0,rq,j',bZ,t1,t2,f0,f1,f5,f8,f13,f18];rfl) (fun I=>?_) (fun I=>?_)<;>first|(exfalso;simp(disch:=omega) [eL,k0,rq,j',bZ,t1,t2] at I;done)|(exfalso;simp at I;omega)|(simp at I))
          | ((first|refine aH ?_|refine aQ ?_);simp(disch:=omega) [eL,k0,rq,j',bZ,t1,t2,f0,f1,f5,f8,f13,f18]))
         exact⟨m/2,by omega,by omega,AN,da,false,xw,AM.2,dy,fun h=>by rw[<-AO,e_ h],f5,f0,rfl⟩
       · have Rk:m=1:=by omega
         subst Rk
         generalize HL:o*b=AN at*
         repeat' (first
          | refine aC ?_
          | ((fail_if_success (refine aT ?_));(fail_if_success (refine aU ?_));refine aO ?_)
          | ((first|(refine aD aN ?_;simp(disch:=omega) [k0,bZ,t1,f0,f1,f5,f8,f13,f18];(try(refine⟨by first|decide|rfl,?_⟩)))|(refine aM ?_;simp(disch:=omega) [k0,bZ,t1,f0,f1,f5,f8,f13,f18]));(try(refine ao [0,1,5,8,13,18] ?_;intro F;simp only[an];intro U aa ae az aY bG;simp(disch:=omega) [k0,bZ,t1,f0,f1,f5,f8,f13,f18] at U aa ae az aY bG;clear f0 f1 f5 f8 f13 f18;have f0:=U;have f1:=aa;have f5:=ae;have f8:=az;have f13:=aY;have f18:=bG;clear U aa ae az aY bG)))
          | (refine aL _ (by simp(disch:=omega) [k0,bZ,t1,f0,f1,f5,f8,f13,f18];rfl) (fun I=>?_) (fun I=>?_)<;>first|(exfalso;simp(disch:=omega) [k0,bZ,t1] at I;done)|(exfalso;simp at I;omega)|(simp at I))
          | ((first|refine aH ?_|refine aQ ?_);simp(disch:=omega) [k0,bZ,t1,f0,f1,f5,f8,f13,f18]))
         exact⟨AN,b,false,by rw[<-HL,Nat.pow_zero,Nat.mul_one];rw[Nat.pow_one] at aR;exact aR,AM.2,bU,e_,f5,f0,rfl⟩
     · have rr:m%2=0:=by omega
       have j':1<m:=by omega
       have xw:=Ri aR rr
       have t2:=xv (b,b) ⟨by simp only;omega,by simp only;omega,(lA j').1⟩ (args:=[aw b,aw b]) (by simp)
       have dy:=(lA j').2
       simp only at t2
       generalize AO:b*b=da at*
       repeat' (first
        | refine aC ?_
        | ((fail_if_success (refine aT ?_));(fail_if_success (refine aU ?_));refine aO ?_)
        | ((first|(refine aD aN ?_;simp(disch:=omega) [eL,k0,rr,j',bZ,t2,f0,f1,f5,f8,f13,f18];(try(refine⟨by first|decide|rfl,?_⟩)))|(refine aM ?_;simp(disch:=omega) [eL,k0,rr,j',bZ,t2,f0,f1,f5,f8,f13,f18]));(try(refine ao [0,1,5,8,13,18] ?_;intro F;simp only[an];intro U aa ae az aY bG;simp(disch:=omega) [eL,k0,rr,j',bZ,t2,f0,f1,f5,f8,f13,f18] at U aa ae az aY bG;clear f0 f1 f5 f8 f13 f18;have f0:=U;have f1:=aa;have f5:=ae;have f8:=az;have f13:=aY;have f18:=bG;clear U aa ae az aY bG)))
        | (refine aL _ (by simp(disch:=omega) [eL,k0,rr,j',bZ,t2,f0,f1,f5,f8,f13,f18];rfl) (fun I=>?_) (fun I=>?_)<;>first|(exfalso;simp(disch:=omega) [eL,k0,rr,j',bZ,t2] at I;done)|(exfalso;simp at I;omega)|(simp at I))
        | ((first|refine aH ?_|refine aQ ?_);simp(disch:=omega) [eL,k0,rr,j',bZ,t2,f0,f1,f5,f8,f13,f18]))
       exact⟨m/2,by omega,by omega,o,da,e,xw,cH,dy,fun h=>by rw[<-AO,e_ h],f5,f0,rfl⟩
 · rintro s aE ⟨o,b,e,aR,cH,bU,e_,ez,kF,bz⟩
   rw[Nat.pow_zero,Nat.mul_one] at aR
   subst aR
   clear f0 f1 f5
   have f5:=ez
   refine ao [4,5] ?_
   intro F
   simp only[an]
   intro ad ae
   try simp[aJ,f5] at ad ae
   clear f5
   have f4:=ad
   have f5:=ae
   clear ad ae
   generalize a^n=r at*
   repeat' (first
    | refine aC ?_
    | ((fail_if_success (refine aT ?_));(fail_if_success (refine aU ?_));refine aO ?_)
    | ((first|(refine aD aN ?_;simp(disch:=omega) [f4,f5];(try(refine⟨by first|decide|rfl,?_⟩)))|(refine aM ?_;simp(disch:=omega) [f4,f5]));(try(refine ao [4,5] ?_;intro F;simp only[an];intro ad ae;simp(disch:=omega) [f4,f5] at ad ae;clear f4 f5;have f4:=ad;have f5:=ae;clear ad ae)))
    | (refine aL _ (by simp(disch:=omega) [f4,f5];rfl) (fun I=>?_) (fun I=>?_)<;>first|(exfalso;simp(disch:=omega) at I;done)|(exfalso;simp at I;omega)|(simp at I))
    | ((first|refine aH ?_|refine aQ ?_);simp(disch:=omega) [f4,f5]))
end
section
attribute [local irreducible] ck
attribute [local simp] ed ef dm
noncomputable def xx:FuncId->Option (List J->Option J):=dn [(137,tf),(152,AL),(84,mz)]
theorem Rl:∀f T,xx f=some T->br Tryz.prog G f T:=dr (by simp only[List.forall_mem_cons];exact⟨HD,Rj,u6,fun _ h=>absurd h (by simp)⟩)
theorem Rm:xx 137=some tf:=rfl
theorem Rn:xx 152=some AL:=rfl
theorem Ro:xx 84=some mz:=rfl
attribute [local simp] Rm Rn Ro
noncomputable def qc:List J->Option J:=cd (fun z:Int × Int=>cb z.1<=500000/\cb z.2<=500000/\min (cb z.1) (cb z.2)<48) (fun z=>[bk z.1,bk z.2]) (fun z=>bk (z.1*z.2))
theorem AP (z:Int × Int) (h:cb z.1<=500000/\cb z.2<=500000/\min (cb z.1) (cb z.2)<48) {args:List J} (he:args.map J.loose= [bk z.1,bk z.2]):qc args=some (bk (z.1*z.2)):=cU (fun z w h=>by first|(simp only[List.cons.injEq,J.int.injEq,J.bool.injEq,J.sl.injEq,cl,cm,ct,cu,cp,b2,b6,cn,bY,true_and,and_true] at h;simp[h];done)|(simp only[J.agg.injEq,List.cons.injEq,J.int.injEq,J.bool.injEq,J.sl.injEq,cl,cm,ct,cu,cp,b2,b6,cn,bY,true_and,and_true] at h;simp[h])) z h he
theorem AQ:br Tryz.prog G 52 qc:=by
 refine cG mixed Rl Et fun z aP=>?_
 obtain⟨a,b⟩:=z
 obtain⟨bh,aj,hm⟩:=aP
 simp only[cb] at bh aj hm|-
 have t1:=xv (a.natAbs,b.natAbs) ⟨bh,aj,hm⟩ (args:=[aw a.natAbs,aw b.natAbs]) (by simp)
 have aV:=kP a.natAbs b.natAbs
 have t2:=mA (b:=bK a != bK b) (n:=a.natAbs*b.natAbs) (by omega)
 rw[QY] at t2
 simp only at t1
 generalize a.natAbs*b.natAbs=m at*
 generalize a*b=c at*
 unfold i52
 cases aI:bK a<;>cases a6:bK b<;>rw[aI,a6] at t2<;>simp only[bne,beq_self_eq_true,Bool.not_true,Bool.not_false,show (false == true)=false from rfl,show (true == false)=false from rfl] at t2
 · skip
   refine ao [0,1,2,3,4] fun F=>?_
   simp only[an]
   intro f0 f1 f2 f3 f4
   simp[bj] at f0 f1 f2 f3 f4
   repeat' (first
    | refine aC ?_
    | ((fail_if_success (refine aT ?_));(fail_if_success (refine aU ?_));refine aO ?_)
    | ((first|(refine aD aN ?_;simp(disch:=omega) [aI,a6,t1,t2,f0,f1,f2,f3,f4];(try(refine⟨by first|decide|rfl,?_⟩)))|(refine aM ?_;simp(disch:=omega) [aI,a6,t1,t2,f0,f1,f2,f3,f4]));(try(refine ao [0,1,2,3,4] ?_;intro F;simp only[an];intro U aa af al ad;simp(disch:=omega) [aI,a6,t1,t2,f0,f1,f2,f3,f4] at U aa af al ad;clear f0 f1 f2 f3 f4;have f0:=U;have f1:=aa;have f2:=af;have f3:=al;have f4:=ad;clear U aa af al ad)))
    | (refine aL _ (by simp(disch:=omega) [aI,a6,t1,t2,f0,f1,f2,f3,f4];rfl) (fun I=>?_) (fun I=>?_)<;>first|(exfalso;simp(disch:=omega) [aI,a6,t1,t2] at I;done)|(exfalso;simp at I;omega)|(simp at I))
    | ((first|refine aH ?_|refine aQ ?_);simp(disch:=omega) [aI,a6,t1,t2,f0,f1,f2,f3,f4]))
 · skip
   refine ao [0,1,2,3,4] fun F=>?_
   simp only[an]
   intro f0 f1 f2 f3 f4
   simp[bj] at f0 f1 f2 f3 f4
   repeat' (first
    | refine aC ?_
    | ((fail_if_success (refine aT ?_));(fail_if_success (refine aU ?_));refine aO ?_)
    | ((first|(refine aD aN ?_;simp(disch:=omega) [aI,a6,t1,t2,f0,f1,f2,f3,f4];(try(refine⟨by first|decide|rfl,?_⟩)))|(refine aM ?_;simp(disch:=omega) [aI,a6,t1,t2,f0,f1,f2,f3,f4]));(try(refine ao [0,1,2,3,4] ?_;intro F;simp only[an];intro U aa af al ad;simp(disch:=omega) [aI,a6,t1,t2,f0,f1,f2,f3,f4] at U aa af al ad;clear f0 f1 f2 f3 f4;have f0:=U;have f1:=aa;have f2:=af;have f3:=al;have f4:=ad;clear U aa af al ad)))
    | (refine aL _ (by simp(disch:=omega) [aI,a6,t1,t2,f0,f1,f2,f3,f4];rfl) (fun I=>?_) (fun I=>?_)<;>first|(exfalso;simp(disch:=omega) [aI,a6,t1,t2] at I;done)|(exfalso;simp at I;omega)|(simp at I))
    | ((first|refine aH ?_|refine aQ ?_);simp(disch:=omega) [aI,a6,t1,t2,f0,f1,f2,f3,f4]))
 · skip
   refine ao [0,1,2,3,4] fun F=>?_
   simp only[an]
   intro f0 f1 f2 f3 f4
   simp[bj] at f0 f1 f2 f3 f4
   repeat' (first
    | refine aC ?_
    | ((fail_if_success (refine aT ?_));(fail_if_success (refine aU ?_));refine aO ?_)
    | ((first|(refine aD aN ?_;simp(disch:=omega) [aI,a6,t1,t2,f0,f1,f2,f3,f4];(try(refine⟨by first|decide|rfl,?_⟩)))|(refine aM ?_;simp(disch:=omega) [aI,a6,t1,t2,f0,f1,f2,f3,f4]));(try(refine ao [0,1,2,3,4] ?_;intro F;simp only[an];intro U aa af al ad;simp(disch:=omega) [aI,a6,t1,t2,f0,f1,f2,f3,f4] at U aa af al ad;clear f0 f1 f2 f3 f4;have f0:=U;have f1:=aa;have f2:=af;have f3:=al;have f4:=ad;clear U aa af al ad)))
    | (refine aL _ (by simp(disch:=omega) [aI,a6,t1,t2,f0,f1,f2,f3,f4];rfl) (fun I=>?_) (fun I=>?_)<;>first|(exfalso;simp(disch:=omega) [aI,a6,t1,t2] at I;done)|(exfalso;simp at I;omega)|(simp at I))
    | ((first|refine aH ?_|refine aQ ?_);simp(disch:=omega) [aI,a6,t1,t2,f0,f1,f2,f3,f4]))
 · skip
   refine ao [0,1,2,3,4] fun F=>?_
   simp only[an]
   intro f0 f1 f2 f3 f4
   simp[bj] at f0 f1 f2 f3 f4
   repeat' (first
    | refine aC ?_
    | ((fail_if_success (refine aT ?_));(fail_if_success (refine aU ?_));refine aO ?_)
    | ((first|(refine aD aN ?_;simp(disch:=omega) [aI,a6,t1,t2,f0,f1,f2,f3,f4];(try(refine⟨by first|decide|rfl,?_⟩)))|(refine aM ?_;simp(disch:=omega) [aI,a6,t1,t2,f0,f1,f2,f3,f4]));(try(refine ao [0,1,2,3,4] ?_;intro F;simp only[an];intro U aa af al ad;simp(disch:=omega) [aI,a6,t1,t2,f0,f1,f2,f3,f4] at U aa af al ad;clear f0 f1 f2 f3 f4;have f0:=U;have f1:=aa;have f2:=af;have f3:=al;have f4:=ad;clear U aa af al ad)))
    | (refine aL _ (by simp(disch:=omega) [aI,a6,t1,t2,f0,f1,f2,f3,f4];rfl) (fun I=>?_) (fun I=>?_)<;>first|(exfalso;simp(disch:=omega) [aI,a6,t1,t2] at I;done)|(exfalso;simp at I;omega)|(simp at I))
    | ((first|refine aH ?_|refine aQ ?_);simp(disch:=omega) [aI,a6,t1,t2,f0,f1,f2,f3,f4]))
noncomputable def ru:FuncId->Option (List J->Option J):=dn [(172,lB),(173,lQ),(171,nb),(174,g5),(84,mz)]
theorem Rp:∀f T,ru f=some T->br Tryz.prog G f T:=dr (by simp only[List.forall_mem_cons];exact⟨w2,Ac,u1,sT,u6,fun _ h=>absurd h (by simp)⟩)
theorem Rq:ru 172=some lB:=rfl
theorem Rr:ru 173=some lQ:=rfl
theorem Rs:ru 171=some nb:=rfl
theorem Rt:ru 174=some g5:=rfl
theorem Ru:ru 84=some mz:=rfl
theorem Rv:ru 175=none:=rfl
attribute [local simp] Rq Rr Rs Rt Ru Rv
noncomputable def AR:List J->Option J:=cd (fun z:Int × Nat=>cb z.1<=10000000/\z.2<=10000000) (fun z=>[bk z.1,bt z.2]) (fun z=>bk (z.1*2^z.2))
theorem Rw:br Tryz.prog G 86 AR:=by
 refine cG mixed Rp Ey fun z aP=>?_
 obtain⟨a,n⟩:=z
 obtain⟨bh,ar⟩:=aP
 simp only[cb] at bh ar|-
 have a4:=Nat.pow_pos (n:=n) (show 0<2 by decide)
 have qz:a.natAbs<=a.natAbs*2^n:=Nat.le_mul_of_pos_right _ a4
 have aV:=kP a.natAbs (2^n)
 have fN:(ah (2^n)).length<=n+1:=c5.2 (by rw[lf];exact Nat.pow_lt_pow_right (by decide) (by omega))
 have t1:=q6 (a:=a.natAbs) (n:=n) (e:=false) (by omega) (by omega)
 have t2:=u0 (a:=a.natAbs*2^n) (b:=a.natAbs) (e:=false) (e':=false) (by omega) (by omega)
 have t3:=mA (b:=bK a) (n:=a.natAbs*2^n) (by omega)
 rw[QZ] at t3
 have eg:(dV (a.natAbs*2^n) a.natAbs<Z 0)=False:=eq_false (by simp only[dV];rw[if_neg (by omega)];split<;>decide)
 generalize dV (a.natAbs*2^n) a.natAbs=w1 at*
 generalize a.natAbs*2^n=m at*
 generalize a*2^n=c at*
 unfold i86
 cases aI:bK a<;>rw[aI] at t3
 · skip
   refine ao [0,1,2,4,5,6,8,33] fun F=>?_
   simp only[an]
   intro f0 f1 f2 f4 f5 f6 f8 f33
   simp[bj] at f0 f1 f2 f4 f5 f6 f8 f33
   repeat' (first
    | refine aC ?_
    | ((fail_if_success (refine aT ?_));(fail_if_success (refine aU ?_));refine aO ?_)
    | ((first|(refine aD aN ?_;simp(disch:=omega) [aI,t1,t2,t3,eg,f0,f1,f2,f4,f5,f6,f8,f33];(try(refine⟨by first|decide|rfl,?_⟩)))|(refine aM ?_;simp(disch:=omega) [aI,t1,t2,t3,eg,f0,f1,f2,f4,f5,f6,f8,f33]));(try(refine ao [0,1,2,4,5,6,8,33] ?_;intro F;simp only[an];intro U aa af ad ae ai az d';simp(disch:=omega) [aI,t1,t2,t3,eg,f0,f1,f2,f4,f5,f6,f8,f33] at U aa af ad ae ai az d';clear f0 f1 f2 f4 f5 f6 f8 f33;have f0:=U;have f1:=aa;have f2:=af;have f4:=ad;have f5:=ae;have f6:=ai;have f8:=az;have f33:=d';clear U aa af ad ae ai az d')))
    | (refine aL _ (by simp(disch:=omega) [aI,t1,t2,t3,eg,f0,f1,f2,f4,f5,f6,f8,f33];rfl) (fun I=>?_) (fun I=>?_)<;>first|(exfalso;simp(disch:=omega) [aI,t1,t2,t3,eg] at I;done)|(exfalso;simp at I;omega)|(simp at I))
    | ((first|refine aH ?_|refine aQ ?_);simp(disch:=omega) [aI,t1,t2,t3,eg,f0,f1,f2,f4,f5,f6,f8,f33]))
 · skip
   refine ao [0,1,2,4,5,6,8,33] fun F=>?_
   simp only[an]
   intro f0 f1 f2 f4 f5 f6 f8 f33
   simp[bj] at f0 f1 f2 f4 f5 f6 f8 f33
   repeat' (first
    | refine aC ?_
    | ((fail_if_success (refine aT ?_));(fail_if_success (refine aU ?_));refine aO ?_)
    | ((first|(refine aD aN ?_;simp(disch:=omega) [aI,t1,t2,t3,eg,f0,f1,f2,f4,f5,f6,f8,f33];(try(refine⟨by first|decide|rfl,?_⟩)))|(refine aM ?_;simp(disch:=omega) [aI,t1,t2,t3,eg,f0,f1,f2,f4,f5,f6,f8,f33]));(try(refine ao [0,1,2,4,5,6,8,33] ?_;intro F;simp only[an];intro U aa af ad ae ai az d';simp(disch:=omega) [aI,t1,t2,t3,eg,f0,f1,f2,f4,f5,f6,f8,f33] at U aa af ad ae ai az d';clear f0 f1 f2 f4 f5 f6 f8 f33;have f0:=U;have f1:=aa;have f2:=af;have f4:=ad;have f5:=ae;have f6:=ai;have f8:=az;have f33:=d';clear U aa af ad ae ai az d')))
    | (refine aL _ (by simp(disch:=omega) [aI,t1,t2,t3,eg,f0,f1,f2,f4,f5,f6,f8,f33];rfl) (fun I=>?_) (fun I=>?_)<;>first|(exfalso;simp(disch:=omega) [aI,t1,t2,t3,eg] at I;done)|(exfalso;simp at I;omega)|(simp at I))
    | ((first|refine aH ?_|refine aQ ?_);simp(disch:=omega) [aI,t1,t2,t3,eg,f0,f1,f2,f4,f5,f6,f8,f33]))
end
end
end Go.Proofs.YtemiagcencajeaaGreatDoor
