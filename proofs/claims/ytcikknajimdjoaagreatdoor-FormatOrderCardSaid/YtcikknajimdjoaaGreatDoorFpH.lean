/- What the claim needs of the walks, put together by a program (shake.py). -/
import Derived.Test.YtcikknajimdjoaaGreatDoorFpG
set_option maxRecDepth 100000
set_option linter.unusedSimpArgs false
set_option linter.unusedVariables false
set_option linter.unusedSectionVars false
namespace Go.Proofs.YtcikknajimdjoaaGreatDoor
section
set_option maxHeartbeats 8000000
open Go Go.Eng Go.RowKit
def qF:List Nat->ee->ee
 | 0::p,.seq a _=>qF p a
 | _::p,.seq _ b=>qF p b
 | 0::p,.cond _ a _=>qF p a
 | _::p,.cond _ _ b=>qF p b
 | _::p,.block _ c=>qF p c
 | _::p,.loop c=>qF p c
 | _,c=>c
def zn:ee:=qF [1,1,1,1,1,1,1,1,0,1,0,0] i122.body
end
section
set_option maxHeartbeats 8000000
open Go Go.Eng Go.RowKit
theorem Own.later {h g ay:aF} {v:J} {o:List Nat} (x:Own h g v o) (k:Kept g ay):Own h ay v o:=⟨x.kept.trans k,x.val.imp id fun⟨r,ae,h2,V⟩=>⟨r,ae,h2,V.kept k⟩⟩
theorem Own.outs {h ay:aF} {v:J} {o:List Nat} (x:Own h ay v o):∃ids e,∀bD m p,eJ ⟨ay.cells,bD,m,p⟩ v=some (cH o e,ids)/\hL ⟨ay.cells,bD,m,p⟩ v=some (cH o e,ids)/\kU ⟨ay.cells,bD,m,p⟩ v=some (cH o e,ids):=by
 rcases x.val with⟨rfl,rfl⟩|⟨r,rfl,_,V⟩
 · exact ⟨[],true,fun _ _ _=>⟨rfl,rfl,rfl⟩⟩
 · have e:∀bD m p,eJ ⟨ay.cells,bD,m,p⟩ (.ref r 0 o.length o.length)=some (cH o false,[r]):=fun bD m p=>by
    rw[h1]
    simp only[V.cells,Nat.zero_add,qA,Nat.le_refl,y4,and_self,if_true,List.drop_zero]
    rw[List.take_of_length_le (by rw[qA];exact Nat.le_refl _)]
    rfl
   exact ⟨[r],false,fun bD m p=>⟨e bD m p,e bD m p,e bD m p⟩⟩
end
section
set_option maxHeartbeats 8000000
open Go Go.Eng Go.RowKit
theorem JQ {a b q r:Int} (au:b≠0) (h:r+b*q=a) (aS:0<=r) (ae:r<b.natAbs):a/b=q/\a%b=r:=by
 rcases Int.lt_or_gt_of_ne au with b6|te
 · obtain⟨c,rfl⟩:∃c,b= -c:=⟨-b,by omega⟩
   have:=(Int.ediv_emod_unique (a:=a) (b:=c) (r:=r) (q:= -q) (by omega)).2 ⟨by grind,aS,by omega⟩
   rw[Int.ediv_neg,Int.emod_neg]
   omega
 · exact (Int.ediv_emod_unique te).2 ⟨h,aS,by omega⟩
theorem JR (a b:Int) (au:b≠0) (aV:b' a=false\/a.natAbs%b.natAbs=0):
 db (b' a != b' b) (a.natAbs/b.natAbs)=a/b/\db false (a.natAbs%b.natAbs)=a%b:=by
 have bF:=sS a
 have hz:=sS b
 have bw:=Nat.div_add_mod a.natAbs b.natAbs
 have hm:=Nat.mod_lt a.natAbs (show 0<b.natAbs by omega)
 generalize eO:b.natAbs=n at*
 generalize a.natAbs=m at*
 generalize m/n=q at*
 generalize m%n=r at*
 generalize b' a=s at*
 generalize b' b=t at*
 have lI:(n:Int)*q+r=m:=by exact_mod_cast bw
 have:=JQ (a:=a) (b:=b) (q:=db (s != t) q) (r:=r) au (by
  subst bF hz
  rcases aV with rfl|rfl
  · cases t<;>simp[db]<;>grind
  · cases s<;>cases t<;>simp[db]<;>grind) (by omega) (by omega)
 exact ⟨this.1.symm,by rw[this.2];simp[db]⟩
theorem JS (a b:Int) (au:b≠0) (ml:b' a=true) (bf:a.natAbs%b.natAbs≠0):
 db (b' a != b' b) (a.natAbs/b.natAbs+1)=a/b/\db false (b.natAbs - a.natAbs%b.natAbs)=a%b:=by
 have bF:=sS a
 have hz:=sS b
 have bw:=Nat.div_add_mod a.natAbs b.natAbs
 have hm:=Nat.mod_lt a.natAbs (show 0<b.natAbs by omega)
 generalize eO:b.natAbs=n at*
 generalize a.natAbs=m at*
 generalize m/n=q at*
 generalize m%n=r at*
 rw[ml] at bF|-
 generalize b' b=t at*
 have lI:(n:Int)*q+r=m:=by exact_mod_cast bw
 have:=JQ (a:=a) (b:=b) (q:=db (true != t) (q+1)) (r:=((n - r:Nat):Int)) au (by
  subst bF hz
  rw[Int.ofNat_sub (by omega)]
  cases t<;>simp[db]<;>grind) (by omega) (by omega)
 exact ⟨this.1.symm,by rw[this.2];simp[db]⟩
end
section
open Go Go.Eng Go.RowKit
theorem TA {P:Program} {G:Nat->Option J} {f:FuncId} {A:Type} {pre:A->Prop} {enc:A->List J} {out:A->J} (inj:∀a b,enc a=enc b->out a=out b) (q:A->Prop)
 (ae:bl P G f (cl (fun a=>pre a/\q a) enc out)) (h2:bl P G f (cl (fun a=>pre a/\¬q a) enc out)):bl P G f (cl pre enc out):=by
 intro args v dn
 obtain⟨a,bF,au,rfl⟩:=wF dn
 by_cases bo:q a
 · exact ae args (out a) (cI inj a ⟨bF,bo⟩ au.symm)
 · exact h2 args (out a) (cI inj a ⟨bF,bo⟩ au.symm)
theorem TB {P pj tf W Y lw tg g:Nat} (m9:Y=pj*P+tg) (Z6:tg<P) (mx:W=tf*P+lw) (Z7:lw<P) (th:4294967296<=pj) (b6:W<4294967296*Y) (bq:g=min (tf/pj) 4294967295):W/Y<=g/\g<=W/Y+1/\W/Y<=4294967295:=by
 have nR:0<P:=by omega
 have JT:0<Y:=by rw[m9];exact Nat.add_pos_left (Nat.mul_pos (by omega) nR) _
 have bo:=Nat.div_mul_le_self W Y
 have IQ:=Nat.lt_succ_of_le (Nat.le_refl (W/Y))
 have Z8:W/Y<4294967296:=by rw[Nat.div_lt_iff_lt_mul JT];exact b6
 have Z9:W<(W/Y+1)*Y:=by
  have:=Nat.div_add_mod W Y
  have:=Nat.mod_lt W JT
  rw[Nat.add_mul,Nat.mul_comm (W/Y)];omega
 generalize W/Y=Q at*
 have ae:Q<=tf/pj:=by
  rw[Nat.le_div_iff_mul_le (by omega)]
  have e:Q*pj*P<=Q*Y:=by rw[m9,Nat.mul_add,Nat.mul_assoc];omega
  have aq:Q*pj*P<(tf+1)*P:=by rw[Nat.add_mul];omega
  have:=Nat.lt_of_mul_lt_mul_right aq
  omega
 have AI:g*pj<=tf:=by
  have:g<=tf/pj:=by rw[bq];exact Nat.min_le_left _ _
  exact (Nat.le_div_iff_mul_le (by omega)).1 this
 have TC:g<=4294967295:=by rw[bq];exact Nat.min_le_right _ _
 refine⟨by rw[bq];omega,?_,by omega⟩
 have aj:g*Y<W+Y:=by
  have aq:g*Y=g*pj*P+g*tg:=by rw[m9,Nat.mul_add,Nat.mul_assoc]
  have aW:g*pj*P<=tf*P:=Nat.mul_le_mul_right P AI
  have bW:g*tg<=4294967295*P:=Nat.mul_le_mul TC (by omega)
  have ea:4294967296*P<=pj*P:=Nat.mul_le_mul_right P th
  rw[aq]
  omega
 have aq:g*Y<(Q+2)*Y:=by
  have:(Q+2)*Y=(Q+1)*Y+Y:=by grind
  omega
 have:=Nat.lt_of_mul_lt_mul_right aq
 omega
theorem TD {ti:List Nat} (aP:Small ti) {i n:Nat} (aC:2<=n) (pX:val ti<aE (i+n+1)):val ti/aE i/aE (n - 2)=two (two (a5 ti (i+n)) (a5 ti (i+n - 1))) (a5 ti (i+n - 2)):=by
 rw[qp aP,qp aP,qp aP]
 obtain⟨p,rfl⟩:∃p,n=p+2:=⟨n - 2,by omega⟩
 rw[show i+(p+2) - 1=(i+p)+1 by omega,show i+(p+2) - 2=i+p by omega,show i+(p+2)=(i+p)+1+1 by omega,show p+2 - 2=p by omega,Nat.div_div_eq_div_mul,<-hg,rh,rh]
 rw[show i+(p+2)+1=(i+p)+3 by omega,hg,show aE 3=4294967296*4294967296*4294967296 by simp only[eQ,fC],Nat.mul_comm] at pX
 have:=(Nat.div_lt_iff_lt_mul (kO (i+p))).2 pX
 generalize val ti/aE (i+p)=u at*
 simp only[two]
 omega
theorem TE {Y n:Nat} (aC:2<=n) (m9:Y<aE n):Y/aE (n - 2)=two (a5 (ai Y) (n - 1)) (a5 (ai Y) (n - 2)):=by
 rw[gv,gv]
 obtain⟨p,rfl⟩:∃p,n=p+2:=⟨n - 2,by omega⟩
 rw[show p+2 - 1=p+1 by omega,show p+2 - 2=p by omega,rh]
 rw[hg,show aE 2=4294967296*4294967296 by simp only[eQ,fC],Nat.mul_comm] at m9
 have:=(Nat.div_lt_iff_lt_mul (kO p)).2 m9
 generalize Y/aE p=u at*
 simp only[two]
 omega
theorem TF {X qa Y P ql g b Q:Nat} (nR:0<P) (m9:0<Y) (eA:Q=X/P/Y) (ae:Q<=g) (h2:g<=Q+1) (aY:qa+P*(g*Y)=X+P*ql*b) (au:b<=1) (pX:qa<P*ql) (Z_:X<P*ql):
 (b=0->g=Q/\qa+P*(Q*Y)=X)/\(b=1->g=Q+1/\∀zo d,zo+P*ql*d=qa+P*Y->zo<P*ql->zo+P*(Q*Y)=X)/\X<P*((Q+1)*Y)/\P*(Q*Y)<=X:=by
 have bw:=Nat.div_add_mod X P
 have hm:=Nat.mod_lt X nR
 have qv:=Nat.div_add_mod (X/P) Y
 have Z':=Nat.mod_lt (X/P) m9
 rw[<-eA] at qv
 have ab:P*(Q*Y)<=X:=by
  have:P*(Q*Y)<=P*(X/P):=Nat.mul_le_mul_left P (by rw[Nat.mul_comm];omega)
  omega
 have aa:X<P*((Q+1)*Y):=by
  have e:X/P+1<=(Q+1)*Y:=by rw[Nat.add_mul,Nat.mul_comm Q];omega
  have:=Nat.mul_le_mul_left P e
  rw[Nat.mul_add] at this
  omega
 refine⟨fun h=>?_,fun h=>?_,aa,ab⟩
 · subst h
   rw[Nat.mul_zero,Nat.add_zero] at aY
   have:g=Q:=by
    refine Nat.le_antisymm ?_ ae
    refine Nat.le_of_not_lt fun b6=>?_
    have e:P*((Q+1)*Y)<=P*(g*Y):=Nat.mul_le_mul_left P (Nat.mul_le_mul_right Y b6)
    omega
   subst this
   exact ⟨rfl,aY⟩
 · subst h
   rw[Nat.mul_one] at aY
   have:g=Q+1:=by
    refine Nat.le_antisymm h2 ?_
    refine Nat.lt_of_le_of_ne ae fun he=>?_
    subst he
    omega
   subst this
   refine⟨rfl,fun zo d aO a2=>?_⟩
   have e:P*((Q+1)*Y)=P*(Q*Y)+P*Y:=by rw[Nat.add_mul,Nat.one_mul,Nat.mul_add]
   have TG:d=1:=by
    rcases Nat.lt_trichotomy d 1 with h|h|h
    · have:d=0:=by omega
      subst this
      omega
    · exact h
    · have:P*ql*2<=P*ql*d:=Nat.mul_le_mul_left _ h
      have aW:P*Y<=P*((Q+1)*Y):=by rw[e];omega
      omega
   subst TG
   omega
end
section
set_option maxHeartbeats 8000000
open Go Go.Eng Go.RowKit
attribute [local simp] bH.m bH.o bH.n bH.g hy fh dG dr dJ evalOp.eq_1 evalOp.eq_2 evalOp.eq_3 evalOp.eq_4 evalOp.eq_5 evalOp.eq_6 evalOp.eq_7 evalOp.eq_8 evalOp.eq_9 evalOp.eq_10 evalOp.eq_11 evalOp.eq_12 evalOp.eq_13 evalOp.eq_14 evalOp.eq_15 evalOp.eq_16 evalOp.eq_17 evalOp.eq_18 evalOp.eq_19 evalOp.eq_20 evalOp.eq_21 evalOp.eq_22 evalOp.eq_23 evalOp.eq_24 evalOp.eq_25 evalOp.eq_27 evalOp.eq_28 evalOp.eq_29 kl bn.cu dq aG aF.new a8 J.cells J.dp J.e7 J.ft il iq im ir iv iu jK jL jM gY gZ cut partOf bound elems jO jP jQ jR jS jT jU jV jW jX jY jZ h1 j0 j1 j2 j3 j4 j5 j6 j7 j8 j9 j_ j' ka kb kc kd ke kf kg kh ki kj kk ff e8 e1 gi iw hA aF.close aF.set h3 km kn ko jN hB gD gq gJ gr hX gu gK hY hZ h0 gf gg gh gd ix bI hU iy hV iz iA fY iB fw iC iD iE gT jJ iF iG iH iI iJ iK iL iM iN iO iP iQ iR iS iT iU iV iW iX hf iY iZ i_ i' ja jb jc jd je jf jg jh ji jj jk
attribute [local simp high] jG jH jI jl jm jn jo jq jr js jt ju jv jw jx jy jz jA jB jC jD jE jF
attribute [local simp] aS List.getElem?_cons_zero List.getElem?_cons_succ fa eh gl Nat.mod_eq_of_lt kH kI kJ kK gL kL kM kN
section
attribute [local irreducible] cQ
attribute [local simp] ek eL du
noncomputable def zp:FuncId->Option (List J->Option J):=da [(45,mz),(139,uY),(98,ln)]
theorem TH:∀f T,zp f=some T->bl Tryz.prog G f T:=dc (by simp only[List.forall_mem_cons];exact ⟨sN,JE,qt,fun _ h=>absurd h (by simp)⟩)
theorem TI:zp 45=some mz:=rfl
theorem TJ:zp 139=some uY:=rfl
theorem TK:zp 98=some ln:=rfl
attribute [local simp] TI TJ TK
noncomputable def u6:List J->Option J:=cl (fun z:Nat × Nat=>(ai z.1).length<=10000000/\(ai z.2).length<=10000000) (fun z=>[aw z.1,aw z.2]) (fun z=>if z.2=0 then .cb [.sl [] false,.sl [] false,bp 3] else .cb [aw (z.1/z.2),aw (z.1%z.2),bp 0])
theorem JU (z:Nat × Nat) (h:(ai z.1).length<=10000000/\(ai z.2).length<=10000000) {args:List J} (he:args.map J.loose= [aw z.1,aw z.2]):u6 args=some (if z.2=0 then .cb [.sl [] false,.sl [] false,bp 3] else .cb [aw (z.1/z.2),aw (z.1%z.2),bp 0]):=cI (fun z w h=>by first|(simp only[List.cons.injEq,J.int.injEq,J.bool.injEq,J.sl.injEq,bT,bU,bY,bZ,bX,bG,bL,bV,bI,true_and,and_true] at h;simp[h];done)|(simp only[J.agg.injEq,List.cons.injEq,J.int.injEq,J.bool.injEq,J.sl.injEq,bT,bU,bY,bZ,bX,bG,bL,bV,bI,true_and,and_true] at h;simp[h])) z h he
def xe (z:Nat × Nat):Prop:=z.2=0\/z.1<z.2\/(ai z.2).length<=1
theorem TL:bl Tryz.prog G 122 (cl (fun z:Nat × Nat=>((ai z.1).length<=10000000/\(ai z.2).length<=10000000)/\xe z) (fun z=>[aw z.1,aw z.2]) (fun z=>if z.2=0 then .cb [.sl [] false,.sl [] false,bp 3] else .cb [aw (z.1/z.2),aw (z.1%z.2),bp 0])):=by
 refine cJ mixed TH BB fun z aV=>?_
 obtain⟨a,b⟩:=z
 obtain⟨⟨cZ,cm⟩,bo⟩:=aV
 simp only[xe] at cZ cm bo|-
 unfold i122
 have bM:=eX
 by_cases e9:b=0
 · rw[if_pos e9]
   subst e9
   refine al [0,1,4,5,6,7,8,10,11,12,13,14,15,16,17,21,27,61,76,119] fun F=>?_
   simp only[ak]
   intro f0 f1 f4 f5 f6 f7 f8 f10 f11 f12 f13 f14 f15 f16 f17 f21 f27 f61 f76 f119
   simp[a8] at f0 f1 f4 f5 f6 f7 f8 f10 f11 f12 f13 f14 f15 f16 f17 f21 f27 f61 f76 f119
   repeat' (first
    | refine ax ?_
    | ((fail_if_success (refine aQ ?_));(fail_if_success (refine aR ?_));refine aL ?_)
    | ((first|(refine az aM ?_;simp(disch:=omega) [bM,f0,f1,f4,f5,f6,f7,f8,f10,f11,f12,f13,f14,f15,f16,f17,f21,f27,f61,f76,f119];(try(refine⟨by first|decide|rfl,?_⟩)))|(refine aK ?_;simp(disch:=omega) [bM,f0,f1,f4,f5,f6,f7,f8,f10,f11,f12,f13,f14,f15,f16,f17,f21,f27,f61,f76,f119]));(try(refine al [0,1,4,5,6,7,8,10,11,12,13,14,15,16,17,21,27,61,76,119] ?_;intro F;simp only[ak];intro U ab ad ah ag ar ao aB bA aX aZ bs bE bQ bx dx c5 cM eG dz;simp(disch:=omega) [bM,f0,f1,f4,f5,f6,f7,f8,f10,f11,f12,f13,f14,f15,f16,f17,f21,f27,f61,f76,f119] at U ab ad ah ag ar ao aB bA aX aZ bs bE bQ bx dx c5 cM eG dz;clear f0 f1 f4 f5 f6 f7 f8 f10 f11 f12 f13 f14 f15 f16 f17 f21 f27 f61 f76 f119;have f0:=U;have f1:=ab;have f4:=ad;have f5:=ah;have f6:=ag;have f7:=ar;have f8:=ao;have f10:=aB;have f11:=bA;have f12:=aX;have f13:=aZ;have f14:=bs;have f15:=bE;have f16:=bQ;have f17:=bx;have f21:=dx;have f27:=c5;have f61:=cM;have f76:=eG;have f119:=dz;clear U ab ad ah ag ar ao aB bA aX aZ bs bE bQ bx dx c5 cM eG dz)))
    | (refine aJ _ (by simp(disch:=omega) [bM,f0,f1,f4,f5,f6,f7,f8,f10,f11,f12,f13,f14,f15,f16,f17,f21,f27,f61,f76,f119];rfl) (fun I=>?_) (fun I=>?_)<;>first|(exfalso;simp(disch:=omega) [bM] at I;done)|(exfalso;simp at I;omega)|(simp at I))
    | ((first|refine aH ?_|refine aN ?_);simp(disch:=omega) [bM,f0,f1,f4,f5,f6,f7,f8,f10,f11,f12,f13,f14,f15,f16,f17,f21,f27,f61,f76,f119]))
 rw[if_neg e9]
 have gp:(ai b).length≠0:=by have:=lk.2 e9;omega
 have lN:ai b≠ []:=fun h=>e9 (g3.1 h)
 have ds:=qu (a:=a) (b:=b) (e:=false) (e':=false) (by omega) (by omega)
 by_cases b6:a<b
 · have fl:cT a b= -1:=by simp[cT,b6]
   rw[fl] at ds
   rw[Nat.div_eq_of_lt b6,Nat.mod_eq_of_lt b6]
   have nS:((-1:Int)<Z 0)=True:=by simp[Z]
   refine al [0,1,4,5,6,7,8,10,11,12,13,14,15,16,17,21,27,61,76,119] fun F=>?_
   simp only[ak]
   intro f0 f1 f4 f5 f6 f7 f8 f10 f11 f12 f13 f14 f15 f16 f17 f21 f27 f61 f76 f119
   simp[a8] at f0 f1 f4 f5 f6 f7 f8 f10 f11 f12 f13 f14 f15 f16 f17 f21 f27 f61 f76 f119
   repeat' (first
    | refine ax ?_
    | ((fail_if_success (refine aQ ?_));(fail_if_success (refine aR ?_));refine aL ?_)
    | ((first|(refine az aM ?_;simp(disch:=omega) [ds,gp,lN,nS,bM,f0,f1,f4,f5,f6,f7,f8,f10,f11,f12,f13,f14,f15,f16,f17,f21,f27,f61,f76,f119];(try(refine⟨by first|decide|rfl,?_⟩)))|(refine aK ?_;simp(disch:=omega) [ds,gp,lN,nS,bM,f0,f1,f4,f5,f6,f7,f8,f10,f11,f12,f13,f14,f15,f16,f17,f21,f27,f61,f76,f119]));(try(refine al [0,1,4,5,6,7,8,10,11,12,13,14,15,16,17,21,27,61,76,119] ?_;intro F;simp only[ak];intro U ab ad ah ag ar ao aB bA aX aZ bs bE bQ bx dx c5 cM eG dz;simp(disch:=omega) [ds,gp,lN,nS,bM,f0,f1,f4,f5,f6,f7,f8,f10,f11,f12,f13,f14,f15,f16,f17,f21,f27,f61,f76,f119] at U ab ad ah ag ar ao aB bA aX aZ bs bE bQ bx dx c5 cM eG dz;clear f0 f1 f4 f5 f6 f7 f8 f10 f11 f12 f13 f14 f15 f16 f17 f21 f27 f61 f76 f119;have f0:=U;have f1:=ab;have f4:=ad;have f5:=ah;have f6:=ag;have f7:=ar;have f8:=ao;have f10:=aB;have f11:=bA;have f12:=aX;have f13:=aZ;have f14:=bs;have f15:=bE;have f16:=bQ;have f17:=bx;have f21:=dx;have f27:=c5;have f61:=cM;have f76:=eG;have f119:=dz;clear U ab ad ah ag ar ao aB bA aX aZ bs bE bQ bx dx c5 cM eG dz)))
    | (refine aJ _ (by simp(disch:=omega) [ds,gp,lN,nS,bM,f0,f1,f4,f5,f6,f7,f8,f10,f11,f12,f13,f14,f15,f16,f17,f21,f27,f61,f76,f119];rfl) (fun I=>?_) (fun I=>?_)<;>first|(exfalso;simp(disch:=omega) [ds,gp,lN,nS,bM] at I;done)|(exfalso;simp at I;omega)|(simp at I))
    | ((first|refine aH ?_|refine aN ?_);simp(disch:=omega) [ds,gp,lN,nS,bM,f0,f1,f4,f5,f6,f7,f8,f10,f11,f12,f13,f14,f15,f16,f17,f21,f27,f61,f76,f119,bM]))
 · have fl:(cT a b<Z 0)=False:=by
    simp only[cT,if_neg b6,Z];split<;>simp
   generalize cT a b=B4 at*
   have m7:(ai b).length=1:=by omega
   have qE:b<4294967296:=by
    have:=c8.1 (show (ai b).length<=1 by omega)
    rwa [eQ,fC,Nat.one_mul] at this
   have ew:=(k4 (show 0<(ai b).length by omega)).symm
   rw[gv,fC,Nat.div_one,Nat.mod_eq_of_lt qE] at ew
   have cB:=Tj (a,b) ⟨show (ai a).length<=100000000 by omega,qE⟩ (args:=[aw a,b2 b]) (by simp)
   simp only[if_neg e9] at cB
   have TM:a%b<4294967296:=Nat.lt_trans (Nat.mod_lt _ (Nat.pos_of_ne_zero e9)) qE
   have cS:=pR (l:=[a%b]) (e:=true) (mi.2 ⟨TM,Small.nil⟩) (by simp)
   rw[show val [a%b]=a%b by simp[val]] at cS
   simp only[List.map_cons,List.map_nil] at cS
   generalize a/b=q at*
   generalize a%b=r at*
   refine al [0,1,4,5,6,7,8,10,11,12,13,14,15,16,17,21,27,61,76,119] fun F=>?_
   simp only[ak]
   intro f0 f1 f4 f5 f6 f7 f8 f10 f11 f12 f13 f14 f15 f16 f17 f21 f27 f61 f76 f119
   simp[a8] at f0 f1 f4 f5 f6 f7 f8 f10 f11 f12 f13 f14 f15 f16 f17 f21 f27 f61 f76 f119
   repeat' (first
    | refine ax ?_
    | ((fail_if_success (refine aQ ?_));(fail_if_success (refine aR ?_));refine aL ?_)
    | ((first|(refine az aM ?_;simp(disch:=omega) [ds,gp,lN,fl,m7,ew,cB,cS,f0,f1,f4,f5,f6,f7,f8,f10,f11,f12,f13,f14,f15,f16,f17,f21,f27,f61,f76,f119];(try(refine⟨by first|decide|rfl,?_⟩)))|(refine aK ?_;simp(disch:=omega) [ds,gp,lN,fl,m7,ew,cB,cS,f0,f1,f4,f5,f6,f7,f8,f10,f11,f12,f13,f14,f15,f16,f17,f21,f27,f61,f76,f119]));(try(refine al [0,1,4,5,6,7,8,10,11,12,13,14,15,16,17,21,27,61,76,119] ?_;intro F;simp only[ak];intro U ab ad ah ag ar ao aB bA aX aZ bs bE bQ bx dx c5 cM eG dz;simp(disch:=omega) [ds,gp,lN,fl,m7,ew,cB,cS,f0,f1,f4,f5,f6,f7,f8,f10,f11,f12,f13,f14,f15,f16,f17,f21,f27,f61,f76,f119] at U ab ad ah ag ar ao aB bA aX aZ bs bE bQ bx dx c5 cM eG dz;clear f0 f1 f4 f5 f6 f7 f8 f10 f11 f12 f13 f14 f15 f16 f17 f21 f27 f61 f76 f119;have f0:=U;have f1:=ab;have f4:=ad;have f5:=ah;have f6:=ag;have f7:=ar;have f8:=ao;have f10:=aB;have f11:=bA;have f12:=aX;have f13:=aZ;have f14:=bs;have f15:=bE;have f16:=bQ;have f17:=bx;have f21:=dx;have f27:=c5;have f61:=cM;have f76:=eG;have f119:=dz;clear U ab ad ah ag ar ao aB bA aX aZ bs bE bQ bx dx c5 cM eG dz)))
    | (refine aJ _ (by simp(disch:=omega) [ds,gp,lN,fl,m7,ew,cB,cS,f0,f1,f4,f5,f6,f7,f8,f10,f11,f12,f13,f14,f15,f16,f17,f21,f27,f61,f76,f119];rfl) (fun I=>?_) (fun I=>?_)<;>first|(exfalso;simp(disch:=omega) [ds,gp,lN,fl,m7,ew,cB,cS] at I;done)|(exfalso;simp at I;omega)|(simp at I))
    | ((first|refine aH ?_|refine aN ?_);simp(disch:=omega) [ds,gp,lN,fl,m7,ew,cB,cS,f0,f1,f4,f5,f6,f7,f8,f10,f11,f12,f13,f14,f15,f16,f17,f21,f27,f61,f76,f119]))
end
end
section
set_option maxHeartbeats 8000000
open Go Go.Eng Go.RowKit
theorem TN {b n t:Nat} (aC:0<n) (au:(ai b).length=n) (a':t=b/aE (n - 1)):
 t<4294967296/\32 - dv t<=31/\b*2^(32 - dv t)<aE n/\aE n<=2*(b*2^(32 - dv t))/\(ai (b*2^(32 - dv t))).length=n:=by
 obtain⟨p,rfl⟩:∃p,n=p+1:=⟨n - 1,by omega⟩
 rw[Nat.add_sub_cancel] at a'
 have ae:b<aE (p+1):=c8.1 (by omega)
 have h2:aE p<=b:=Nat.le_of_not_lt fun h=>by have:=c8.2 h;omega
 have nR:=kO p
 have t0:t≠0:=by
  have:0<t:=by rw[a'];exact Nat.div_pos h2 nR
  omega
 have t9:t<4294967296:=by rw[a',Nat.div_lt_iff_lt_mul nR,Nat.mul_comm,<-eQ];exact ae
 have ck:dv t<=32:=ot.2 t9
 have dD:dv t≠0:=fun h=>t0 (PX.1 h)
 have lh:t<2^dv t:=ot.1 (Nat.le_refl _)
 have s3:2^(dv t - 1)<=t:=HO.1 (by omega)
 obtain⟨k,aI⟩:∃k,dv t=k+1:=⟨dv t - 1,by omega⟩
 rw[aI] at ck lh s3|-
 rw[show k+1 - 1=k by omega] at s3
 have bw:=Nat.div_add_mod b (aE p)
 have hm:=Nat.mod_lt b nR
 rw[<-a'] at bw
 generalize b%aE p=u at*
 have eM:b*2^(32 -(k+1))<aE (p+1):=by
  have e:b<aE p*2^(k+1):=by
   have:=Nat.mul_le_mul_left (aE p) (show t+1<=2^(k+1) from lh)
   rw[Nat.mul_add] at this
   omega
  have:=Nat.mul_lt_mul_of_pos_right e (Nat.pow_pos (n:=32 -(k+1)) (show 0<2 by decide))
  rw[Nat.mul_assoc,<-Nat.pow_add,show k+1+(32 -(k+1))=32 by omega] at this
  rw[eQ]
  exact this
 have eN:aE (p+1)<=2*(b*2^(32 -(k+1))):=by
  have e:aE p*2^k<=b:=by
   have:=Nat.mul_le_mul_left (aE p) s3
   omega
  have:=Nat.mul_le_mul_right (2*2^(32 -(k+1))) e
  rw[Nat.mul_assoc,Nat.mul_left_comm (2^k),<-Nat.pow_add,show k+(32 -(k+1))=31 by omega] at this
  rw[eQ]
  have aq:aE p*(2*2^31)=aE p*4294967296:=by simp
  rw[aq,Nat.mul_left_comm] at this
  exact this
 refine⟨t9,by omega,eM,eN,?_⟩
 have v1:=c8.2 eM
 have v2:¬(ai (b*2^(32 -(k+1)))).length<=p:=fun h=>by
  have:=c8.1 h
  rw[eQ] at eN
  omega
 omega
theorem TO {a A s fm:Nat} (aU:(ai a).length=A) (aP:s<=31) (mO:a*2^s=fm) (ml:a≠0):A<=(ai fm).length/\(ai fm).length<=A+1/\fm<aE A*2147483648:=by
 have ae:a<aE A:=c8.1 (by omega)
 have h2:2^s<=2147483648:=Nat.pow_le_pow_right (n:=2) (by decide) aP
 have aO:0<2^s:=Nat.pow_pos (by decide)
 have a2:fm<aE A*2147483648:=by
  rw[<-mO]
  exact Nat.lt_of_lt_of_le (Nat.mul_lt_mul_of_pos_right ae aO) (Nat.mul_le_mul_left _ h2)
 have cf:a<=fm:=by rw[<-mO];exact Nat.le_mul_of_pos_right a aO
 refine⟨?_,c8.2 (by rw[eQ];exact Nat.lt_of_lt_of_le a2 (Nat.mul_le_mul_left _ (by decide))),a2⟩
 refine Nat.le_of_not_lt fun h=>?_
 have dS:=c8.1 (Nat.le_refl (ai fm).length)
 have lf:(ai a).length<=(ai fm).length:=c8.2 (by omega)
 omega
theorem TP {r:Nat} {h:aF} {q n v:Nat} {e:Bool} {o:List Nat} (cG:h.shut q=false) (I:h.cells q=some (cm o)) (aC:o.length=n) (aS:0<n) (a6:n<=1000000000):
 mR r 1 4 h (.ref q 0 n n) (.sl [.int .u32 (Z v)] e)=some (.ref r 0 (n+1) (n+1),⟨aG (aG h.cells q none) r (some (cm (o++ [v]))),h.shut,h.next,h.bu⟩,.wr):=by
 have aj:elems h (.sl [.int .u32 (Z v)] e)=some [.int .u32 (Z v)]:=rfl
 have aq:cm (o++ [v])=List.take n (cm o)++ [.int .u32 (Z v)]:=by rw[y5 (by omega)];simp[cm]
 unfold mR
 rw[aj,aq]
 simp only[Option.bind_some]
 rw[if_pos ⟨by decide,by decide,rfl⟩]
 simp only[List.length_cons,List.length_nil,Nat.zero_add,Nat.reduceAdd,cG,I,Option.bind_some,Bool.false_eq_true,if_false]
 rw[if_neg (by decide),if_pos ⟨by rw[qA];omega,by omega,by decide,Tq o⟩,if_neg (by omega),if_pos ⟨by first|rfl|trivial,aS⟩]
theorem zq:∀ {o:List Nat},Small o->∀ {k},(∀j,k<=j->a5 o j=0)->val o<aE k
 | [],_,k,_=>by simp only[val];exact kO k
 | x::l,aP,0,h=>by
   have aS:x=0:=by simpa[a5] using h 0 (Nat.le_refl _)
   have ae:=zq (mi.1 aP).2 (k:=0) (fun j _=>by simpa[a5] using h (j+1) (Nat.zero_le _))
   rw[fC] at*
   simp only[val];omega
 | x::l,aP,k+1,h=>by
   have aS:=(mi.1 aP).1
   have ae:=zq (mi.1 aP).2 (k:=k) (fun j bb=>by simpa[a5] using h (j+1) (by omega))
   rw[eQ]
   simp only[val];omega
theorem JV {o:List Nat} (aP:Small o) {k j:Nat} (h:val o<aE k) (bb:k<=j):a5 o j=0:=by
 rw[qp aP,Nat.div_eq_of_lt (Nat.lt_of_lt_of_le h (mS bb))]
def JW (m n fm Y ct r q k:Nat) (s:bg):Prop:=(∀j,s.h.shut j=false)/\fy s.h ct (ai Y)/\∃c2 fO,c2.length=m+n/\fO.length=m/\Small c2/\Small fO/\fy s.h r c2/\fy s.h q fO/\(∀j,j<k->a5 fO j=0)/\val fO*Y+val c2=fm/\val c2<aE k*Y
theorem TQ {c2:List Nat} {i n Y:Nat} (xs:Small c2) (aC:2<=n) (u7:Y<aE n) (th:aE n<=2*Y) (aY:val c2<aE (i+1)*Y):
 val c2<aE (i+n+1)/\a5 c2 (i+n)<=a5 (ai Y) (n - 1)/\a5 (ai Y) (n - 1)≠0/\
 (val c2/aE i/Y<=mD (a5 c2 (i+n)) (a5 c2 (i+n - 1)) (a5 c2 (i+n - 2)) (a5 (ai Y) (n - 1)) (a5 (ai Y) (n - 2))/\
   mD (a5 c2 (i+n)) (a5 c2 (i+n - 1)) (a5 c2 (i+n - 2)) (a5 (ai Y) (n - 1)) (a5 (ai Y) (n - 2))<=val c2/aE i/Y+1/\val c2/aE i/Y<=4294967295):=by
 have bc:=kO i
 have pX:val c2<aE (i+n+1):=by
  rw[show i+n+1=(i+1)+n by omega,hg]
  exact Nat.lt_of_lt_of_le aY (Nat.mul_le_mul_left _ (Nat.le_of_lt u7))
 have mx:val c2/aE i<4294967296*Y:=by
  rw[Nat.div_lt_iff_lt_mul bc,Nat.mul_comm,<-Nat.mul_assoc,<-eQ];exact aY
 have nR:=kO (n - 2)
 have af:=TD xs aC pX
 have aa:=TE aC u7
 have aaa:a5 (ai Y) (n - 1)<4294967296:=(dW Y).a5 _
 have gR:a5 (ai Y) (n - 2)<4294967296:=(dW Y).a5 _
 have ze:a5 c2 (i+n - 1)<4294967296:=xs.a5 _
 have e4:a5 c2 (i+n - 2)<4294967296:=xs.a5 _
 have rD:4294967296<=Y/aE (n - 2):=by
  rw[Nat.le_div_iff_mul_le nR,Nat.mul_comm,<-eQ,show n - 2+1=n - 1 by omega]
  have:aE n=aE (n - 1)*4294967296:=by rw[<-eQ,show n - 1+1=n by omega]
  omega
 have JX:val c2/aE i/aE (n - 2)<4294967296*(Y/aE (n - 2)+1):=by
  rw[Nat.div_lt_iff_lt_mul nR]
  have ae:=Nat.div_add_mod Y (aE (n - 2))
  have h2:=Nat.mod_lt Y nR
  have aO:Y<(Y/aE (n - 2)+1)*aE (n - 2):=by rw[Nat.add_mul,Nat.mul_comm (Y/aE (n - 2))];omega
  rw[Nat.mul_assoc]
  exact Nat.lt_of_lt_of_le mx (Nat.mul_le_mul_left _ (Nat.le_of_lt aO))
 have JY:=TB (P:=aE (n - 2)) (Nat.div_add_mod' Y (aE (n - 2))).symm (Nat.mod_lt _ nR) (Nat.div_add_mod' (val c2/aE i) (aE (n - 2))).symm (Nat.mod_lt _ nR) rD mx rfl
 rw[af,aa] at JY
 rw[af,aa] at JX
 rw[aa] at rD
 refine⟨pX,?_,?_,JY⟩
 · generalize a5 c2 (i+n)=x2 at*
   generalize a5 (ai Y) (n - 1)=y1 at*
   simp only[two] at JX
   omega
 · intro h
   rw[h] at rD
   simp only[two] at rD
   omega
def JZ (L fm Y ct:Nat) (s:bg):Prop:=(∀j,s.h.shut j=false)/\fy s.h ct (ai Y)/\∃r c2,s.F 12= .ref r 0 L L/\c2.length=L/\val c2=fm/\Small c2/\r≠ct/\fy s.h r c2
theorem fy.off {h:aF} {p q:Nat} {o:List Nat} (R:fy h p o) (cp:p≠q) (v:Option (List J)) (m:Nat) (kF:Nat->Option fu) (hm:h.next<=m):fy ⟨aG h.cells q v,h.shut,m,kF⟩ p o:=
 ⟨by show aG h.cells q v p=_;simp only[aG,if_neg cp];exact R.cells,R.bD,Nat.lt_of_lt_of_le R.fx hm⟩
theorem mE.vec {id:Nat} {h ay:aF} (K:mE id h ay) {q:Nat} {o:List Nat} (V:fy h q o) (cp:q≠id):fy ay q o:=
 ⟨by rw[K.cells q V.fx cp];exact V.cells,by rw[K.shut];exact V.bD,Nat.lt_of_lt_of_le V.fx K.next⟩
theorem J0 {J1 J2 lG CF P Q Y fm:Nat} (bo:J2=J1+P*Q) (aY:J1*Y+lG=fm) (av:CF+P*(Q*Y)=lG) (b6:lG<P*((Q+1)*Y)):J2*Y+CF=fm/\CF<P*Y:=by
 subst bo
 refine⟨by rw[<-aY,<-av];grind,?_⟩
 have e:P*((Q+1)*Y)=P*(Q*Y)+P*Y:=by grind
 omega
end
section
set_option maxHeartbeats 8000000
open Go Go.Eng Go.RowKit
attribute [local simp] bH.m bH.o bH.n bH.g hy fh dG dr dJ evalOp.eq_1 evalOp.eq_2 evalOp.eq_3 evalOp.eq_4 evalOp.eq_5 evalOp.eq_6 evalOp.eq_7 evalOp.eq_8 evalOp.eq_9 evalOp.eq_10 evalOp.eq_11 evalOp.eq_12 evalOp.eq_13 evalOp.eq_14 evalOp.eq_15 evalOp.eq_16 evalOp.eq_17 evalOp.eq_18 evalOp.eq_19 evalOp.eq_20 evalOp.eq_21 evalOp.eq_22 evalOp.eq_23 evalOp.eq_24 evalOp.eq_25 evalOp.eq_27 evalOp.eq_28 evalOp.eq_29 kl bn.cu dq aG aF.new a8 J.cells J.dp J.e7 J.ft il iq im ir iv iu jK jL jM gY gZ cut partOf bound elems jO jP jQ jR jS jT jU jV jW jX jY jZ h1 j0 j1 j2 j3 j4 j5 j6 j7 j8 j9 j_ j' ka kb kc kd ke kf kg kh ki kj kk ff e8 e1 gi iw hA aF.close aF.set h3 km kn ko jN hB gD gq gJ gr hX gu gK hY hZ h0 gf gg gh gd ix bI hU iy hV iz iA fY iB fw iC iD iE gT jJ iF iG iH iI iJ iK iL iM iN iO iP iQ iR iS iT iU iV iW iX hf iY iZ i_ i' ja jb jc jd je jf jg jh ji jj jk
attribute [local simp high] jG jH jI jl jm jn jo jq jr js jt ju jv jw jx jy jz jA jB jC jD jE jF
attribute [local simp] aS List.getElem?_cons_zero List.getElem?_cons_succ fa eh gl Nat.mod_eq_of_lt kH kI kJ kK gL kL kM kN
section
attribute [local irreducible] cQ
attribute [local simp] ek eL du zh zi zj zk zl zm w_ w'
theorem TR {m n Y ct r q i ss g:Nat} {s:bg} {c2 fO:List Nat} {aO:aF} (eC:2<=n) (fk:m+n<=10000001) (h8:i<m) (qG:(ai Y).length=n) (nd:c2.length=m+n) (k9:fO.length=m)
 (f10:s.F 10=bp ss) (f11:s.F 11= .ref ct 0 n n) (f12:s.F 12= .ref r 0 (m+n) (m+n)) (f13:s.F 13=bp n) (f14:s.F 14= .ref q 0 m m) (f15:s.F 15=bp i)
 (gA:s.h.cells r=some (cm c2)) (eU:s.h.cells ct=some (cm (ai Y))) (l7:s.h.shut r=false) (zr:r<s.h.next) (zs:ct<s.h.next)
 (eo:uW [b2 (a5 c2 (i+n)),b2 (a5 c2 (i+n - 1)),b2 (a5 c2 (i+n - 2)),b2 (a5 (ai Y) (n - 1)),b2 (a5 (ai Y) (n - 2))]=some (e3 g)) (bq:g<4294967296)
 (aW:fv G (bk Tryz.prog) h9 [] (.fn 142) [.ref r i (n+1) (m+n - i),.ref ct 0 n n,e3 g] ⟨s.h.cells,s.h.shut,s.h.next+2+32+10,s.h.bu⟩=some (.bool false,aO))
 (qH:aO.cells q=some (cm fO)) (rE:aO.shut q=false):
 cQ G (bk Tryz.prog) h9 [] zn s (fun ex aD=>ex= .normal/\aD.F 15= .int .i64 (lK i)/\∃cd,aO.next<=cd/\aD.h=⟨aG aO.cells q (some (cm (fO.set i g))),aO.shut,cd,aO.bu⟩):=by
 have bK:IntKind.i64.wrap (Z i+Z n)=Z (i+n):=fa (by omega)
 have cr:IntKind.i64.wrap (Z (i+n) - Z 1)=Z (i+n - 1):=eh (by omega) (by omega)
 have eP:IntKind.i64.wrap (Z (i+n) - Z 2)=Z (i+n - 2):=eh (by omega) (by omega)
 have nT:IntKind.i64.wrap (Z n - Z 1)=Z (n - 1):=eh (by omega) (by omega)
 have nU:IntKind.i64.wrap (Z n - Z 2)=Z (n - 2):=eh (by omega) (by omega)
 have nV:IntKind.i64.wrap (Z (i+n)+Z 1)=Z (i+n+1):=fa (by omega)
 have nW:IntKind.i64.wrap (Z i - Z 1)=lK i:=nb (by omega)
 have nX:=kP (show i+n<c2.length by omega)
 have nY:=kP (show i+n - 1<c2.length by omega)
 have nZ:=kP (show i+n - 2<c2.length by omega)
 have n0:=kP (show n - 1<(ai Y).length by omega)
 have n1:=kP (show n - 2<(ai Y).length by omega)
 have eY:=kP (show i<fO.length by omega)
 have n2:=lq (show 0<c2.length by omega)
 have fN:=lq (show 0<(ai Y).length by omega)
 have nf:=lq (show 0<fO.length by omega)
 have lv:r<s.h.next+2:=by omega
 have n3:ct<s.h.next+2:=by omega
 have bw:i+n+1 - i=n+1:=by omega
 have fj:i<=i+n+1:=by omega
 have n4:i+n+1<=m+n:=by omega
 generalize a5 c2 (i+n)=x2 at*
 generalize a5 c2 (i+n - 1)=x1 at*
 generalize a5 c2 (i+n - 2)=x0 at*
 generalize a5 (ai Y) (n - 1)=y1 at*
 generalize a5 (ai Y) (n - 2)=y0 at*
 have st:=pU fO i g
 have n5:g%4294967296=g:=Nat.mod_eq_of_lt (by omega)
 unfold zn
 simp only[qF,i122]
 refine al [10,11,12,13,14,15,16,76,119] ?_
 intro F
 simp only[ak]
 intro aB bA aX aZ bs bE bQ eG dz
 try simp[aS,f10,f11,f12,f13,f14,f15] at aB bA aX aZ bs bE bQ eG dz
 clear f10 f11 f12 f13 f14 f15
 have f10:=aB
 have f11:=bA
 have f12:=aX
 have f13:=aZ
 have f14:=bs
 have f15:=bE
 have f16:=bQ
 have f76:=eG
 have f119:=dz
 clear aB bA aX aZ bs bE bQ eG dz
 repeat' (first
  | refine ax ?_
  | ((fail_if_success (refine aQ ?_));(fail_if_success (refine aR ?_));refine aL ?_)
  | ((first|(refine az cz ?_;simp(disch:=omega) [bK,cr,eP,nT,nU,nV,nW,nX,nY,nZ,n0,n1,eo,gA,eU,n2,fN,l7,lv,n3,bw,fj,n4,aW,qH,nf,rE,eY,st,h8,n5,k9,f10,f11,f12,f13,f14,f15,f16,f76,f119];(try(refine⟨by first|decide|rfl,?_⟩)))|(refine aK ?_;simp(disch:=omega) [bK,cr,eP,nT,nU,nV,nW,nX,nY,nZ,n0,n1,eo,gA,eU,n2,fN,l7,lv,n3,bw,fj,n4,aW,qH,nf,rE,eY,st,h8,n5,k9,f10,f11,f12,f13,f14,f15,f16,f76,f119]));(try(refine al [10,11,12,13,14,15,16,76,119] ?_;intro F;simp only[ak];intro aB bA aX aZ bs bE bQ eG dz;simp(disch:=omega) [bK,cr,eP,nT,nU,nV,nW,nX,nY,nZ,n0,n1,eo,gA,eU,n2,fN,l7,lv,n3,bw,fj,n4,aW,qH,nf,rE,eY,st,h8,n5,k9,f10,f11,f12,f13,f14,f15,f16,f76,f119] at aB bA aX aZ bs bE bQ eG dz;clear f10 f11 f12 f13 f14 f15 f16 f76 f119;have f10:=aB;have f11:=bA;have f12:=aX;have f13:=aZ;have f14:=bs;have f15:=bE;have f16:=bQ;have f76:=eG;have f119:=dz;clear aB bA aX aZ bs bE bQ eG dz)))
  | (refine aJ _ (by simp(disch:=omega) [bK,cr,eP,nT,nU,nV,nW,nX,nY,nZ,n0,n1,eo,gA,eU,n2,fN,l7,lv,n3,bw,fj,n4,aW,qH,nf,rE,eY,st,h8,n5,k9,f10,f11,f12,f13,f14,f15,f16,f76,f119];rfl) (fun I=>?_) (fun I=>?_)<;>first|(exfalso;simp(disch:=omega) [bK,cr,eP,nT,nU,nV,nW,nX,nY,nZ,n0,n1,eo,gA,eU,n2,fN,l7,lv,n3,bw,fj,n4,aW,qH,nf,rE,eY,st,h8,n5,k9] at I;done)|(exfalso;simp at I;omega)|(simp at I))
  | ((first|refine aH ?_|refine aN ?_);simp(disch:=omega) [bK,cr,eP,nT,nU,nV,nW,nX,nY,nZ,n0,n1,eo,gA,eU,n2,fN,l7,lv,n3,bw,fj,n4,aW,qH,nf,rE,eY,st,h8,n5,k9,f10,f11,f12,f13,f14,f15,f16,f76,f119]))
end
section
attribute [local irreducible] cQ
attribute [local simp] ek eL du zh zi zj zk zl zm w_ w'
theorem TS {m n Y ct r q i ss g:Nat} {s:bg} {c2 fO:List Nat} {aO a2:aF} (eC:2<=n) (fk:m+n<=10000001) (h8:i<m) (qG:(ai Y).length=n) (nd:c2.length=m+n) (k9:fO.length=m)
 (f10:s.F 10=bp ss) (f11:s.F 11= .ref ct 0 n n) (f12:s.F 12= .ref r 0 (m+n) (m+n)) (f13:s.F 13=bp n) (f14:s.F 14= .ref q 0 m m) (f15:s.F 15=bp i)
 (gA:s.h.cells r=some (cm c2)) (eU:s.h.cells ct=some (cm (ai Y))) (l7:s.h.shut r=false) (zr:r<s.h.next) (zs:ct<s.h.next)
 (eo:uW [b2 (a5 c2 (i+n)),b2 (a5 c2 (i+n - 1)),b2 (a5 c2 (i+n - 2)),b2 (a5 (ai Y) (n - 1)),b2 (a5 (ai Y) (n - 2))]=some (e3 (g+1))) (bq:g+1<4294967296)
 (aW:fv G (bk Tryz.prog) h9 [] (.fn 142) [.ref r i (n+1) (m+n - i),.ref ct 0 n n,e3 (g+1)] ⟨s.h.cells,s.h.shut,s.h.next+2+32+10,s.h.bu⟩=some (.bool true,aO))
 (aab:r<aO.next) (aac:ct<aO.next) {o0:List Nat} (TT:o0.length=m+n) (u9:aO.cells r=some (cm o0)) (u_:aO.shut r=false)
 (bW:fv G (bk Tryz.prog) h9 [] (.fn 143) [.ref r i (n+1) (m+n - i),.ref ct 0 n n] ⟨aO.cells,aO.shut,aO.next+3+9,aO.bu⟩=some (.cb [],a2))
 (rF:a2.cells q=some (cm fO)) (rG:a2.shut q=false):
 cQ G (bk Tryz.prog) h9 [] zn s (fun ex aD=>ex= .normal/\aD.F 15= .int .i64 (lK i)/\∃cd,a2.next<=cd/\aD.h=⟨aG a2.cells q (some (cm (fO.set i g))),a2.shut,cd,a2.bu⟩):=by
 have bK:IntKind.i64.wrap (Z i+Z n)=Z (i+n):=fa (by omega)
 have cr:IntKind.i64.wrap (Z (i+n) - Z 1)=Z (i+n - 1):=eh (by omega) (by omega)
 have eP:IntKind.i64.wrap (Z (i+n) - Z 2)=Z (i+n - 2):=eh (by omega) (by omega)
 have nT:IntKind.i64.wrap (Z n - Z 1)=Z (n - 1):=eh (by omega) (by omega)
 have nU:IntKind.i64.wrap (Z n - Z 2)=Z (n - 2):=eh (by omega) (by omega)
 have nV:IntKind.i64.wrap (Z (i+n)+Z 1)=Z (i+n+1):=fa (by omega)
 have nW:IntKind.i64.wrap (Z i - Z 1)=lK i:=nb (by omega)
 have nX:=kP (show i+n<c2.length by omega)
 have nY:=kP (show i+n - 1<c2.length by omega)
 have nZ:=kP (show i+n - 2<c2.length by omega)
 have n0:=kP (show n - 1<(ai Y).length by omega)
 have n1:=kP (show n - 2<(ai Y).length by omega)
 have eY:=kP (show i<fO.length by omega)
 have n2:=lq (show 0<c2.length by omega)
 have fN:=lq (show 0<(ai Y).length by omega)
 have nf:=lq (show 0<fO.length by omega)
 have lv:r<s.h.next+2:=by omega
 have n3:ct<s.h.next+2:=by omega
 have bw:i+n+1 - i=n+1:=by omega
 have fj:i<=i+n+1:=by omega
 have n4:i+n+1<=m+n:=by omega
 generalize a5 c2 (i+n)=x2 at*
 generalize a5 c2 (i+n - 1)=x1 at*
 generalize a5 c2 (i+n - 2)=x0 at*
 generalize a5 (ai Y) (n - 1)=y1 at*
 generalize a5 (ai Y) (n - 2)=y0 at*
 have st:=pU fO i g
 have n5:g%4294967296=g:=Nat.mod_eq_of_lt (by omega)
 unfold zn
 simp only[qF,i122]
 have u':r<aO.next+3:=by omega
 have va:ct<aO.next+3:=by omega
 have vb:=lq (show 0<o0.length by omega)
 have vc:(g+1+18446744073709551615)%18446744073709551616=g:=by omega
 refine al [10,11,12,13,14,15,16,76,119] ?_
 intro F
 simp only[ak]
 intro aB bA aX aZ bs bE bQ eG dz
 try simp[aS,f10,f11,f12,f13,f14,f15] at aB bA aX aZ bs bE bQ eG dz
 clear f10 f11 f12 f13 f14 f15
 have f10:=aB
 have f11:=bA
 have f12:=aX
 have f13:=aZ
 have f14:=bs
 have f15:=bE
 have f16:=bQ
 have f76:=eG
 have f119:=dz
 clear aB bA aX aZ bs bE bQ eG dz
 repeat' (first
  | refine ax ?_
  | ((fail_if_success (refine aQ ?_));(fail_if_success (refine aR ?_));refine aL ?_)
  | ((first|(refine az cz ?_;simp(disch:=omega) [bK,cr,eP,nT,nU,nV,nW,nX,nY,nZ,n0,n1,eo,gA,eU,n2,fN,l7,lv,n3,bw,fj,n4,aW,bW,u9,vb,u_,u',va,rF,nf,rG,eY,st,h8,n5,k9,vc,f10,f11,f12,f13,f14,f15,f16,f76,f119];(try(refine⟨by first|decide|rfl,?_⟩)))|(refine aK ?_;simp(disch:=omega) [bK,cr,eP,nT,nU,nV,nW,nX,nY,nZ,n0,n1,eo,gA,eU,n2,fN,l7,lv,n3,bw,fj,n4,aW,bW,u9,vb,u_,u',va,rF,nf,rG,eY,st,h8,n5,k9,vc,f10,f11,f12,f13,f14,f15,f16,f76,f119]));(try(refine al [10,11,12,13,14,15,16,76,119] ?_;intro F;simp only[ak];intro aB bA aX aZ bs bE bQ eG dz;simp(disch:=omega) [bK,cr,eP,nT,nU,nV,nW,nX,nY,nZ,n0,n1,eo,gA,eU,n2,fN,l7,lv,n3,bw,fj,n4,aW,bW,u9,vb,u_,u',va,rF,nf,rG,eY,st,h8,n5,k9,vc,f10,f11,f12,f13,f14,f15,f16,f76,f119] at aB bA aX aZ bs bE bQ eG dz;clear f10 f11 f12 f13 f14 f15 f16 f76 f119;have f10:=aB;have f11:=bA;have f12:=aX;have f13:=aZ;have f14:=bs;have f15:=bE;have f16:=bQ;have f76:=eG;have f119:=dz;clear aB bA aX aZ bs bE bQ eG dz)))
  | (refine aJ _ (by simp(disch:=omega) [bK,cr,eP,nT,nU,nV,nW,nX,nY,nZ,n0,n1,eo,gA,eU,n2,fN,l7,lv,n3,bw,fj,n4,aW,bW,u9,vb,u_,u',va,rF,nf,rG,eY,st,h8,n5,k9,vc,f10,f11,f12,f13,f14,f15,f16,f76,f119];rfl) (fun I=>?_) (fun I=>?_)<;>first|(exfalso;simp(disch:=omega) [bK,cr,eP,nT,nU,nV,nW,nX,nY,nZ,n0,n1,eo,gA,eU,n2,fN,l7,lv,n3,bw,fj,n4,aW,bW,u9,vb,u_,u',va,rF,nf,rG,eY,st,h8,n5,k9,vc] at I;done)|(exfalso;simp at I;omega)|(simp at I))
  | ((first|refine aH ?_|refine aN ?_);simp(disch:=omega) [bK,cr,eP,nT,nU,nV,nW,nX,nY,nZ,n0,n1,eo,gA,eU,n2,fN,l7,lv,n3,bw,fj,n4,aW,bW,u9,vb,u_,u',va,rF,nf,rG,eY,st,h8,n5,k9,vc,f10,f11,f12,f13,f14,f15,f16,f76,f119]))
end
section
attribute [local irreducible] cQ
attribute [local simp] ek eL du zh zi zj zk zl zm w_ w'
theorem TU:bl Tryz.prog G 122 (cl (fun z:Nat × Nat=>((ai z.1).length<=10000000/\(ai z.2).length<=10000000)/\¬xe z) (fun z=>[aw z.1,aw z.2]) (fun z=>if z.2=0 then .cb [.sl [] false,.sl [] false,bp 3] else .cb [aw (z.1/z.2),aw (z.1%z.2),bp 0])):=by
 refine cJ mixed Tk BB fun z aV=>?_
 obtain⟨a,b⟩:=z
 obtain⟨⟨cZ,J3⟩,bo⟩:=aV
 simp only[xe,not_or,Nat.not_lt,Nat.not_le] at cZ J3 bo|-
 obtain⟨e9,J4,gp⟩:=bo
 rw[if_neg e9]
 unfold i122
 obtain⟨n,aC⟩:∃n,(ai b).length=n:=⟨_,rfl⟩
 obtain⟨A,aU⟩:∃A,(ai a).length=A:=⟨_,rfl⟩
 rw[aC] at gp J3
 rw[aU] at cZ
 obtain⟨t,a'⟩:∃t,t=b/aE (n - 1):=⟨_,rfl⟩
 obtain⟨t9,J5,u7,th,qG⟩:=TN (by omega) aC a'
 have tj:=S8 t t9 (args:=[b2 t]) (by simp)
 obtain⟨ss,aP⟩:∃ss,32 - dv t=ss:=⟨_,rfl⟩
 rw[aP] at J5 u7 th qG tj
 have ew:=(k4 (show n - 1<(ai b).length by omega)).symm
 rw[gv,<-a',Nat.mod_eq_of_lt t9] at ew
 have ml:a≠0:=by omega
 have ds:=qu (a:=a) (b:=b) (e:=false) (e':=false) (by omega) (by omega)
 have fl:(cT a b<Z 0)=False:=by
  simp only[cT,if_neg (Nat.not_lt.2 J4),Z];split<;>simp
 generalize cT a b=B4 at*
 have lN:ai b≠ []:=fun h=>e9 (g3.1 h)
 have od:n≠0:=by omega
 have nS:n≠1:=by omega
 obtain⟨v1,ae,aj,CG⟩:=JK [] {cells:=fun _=>none,shut:=fun _=>false,next:=28} (fun _=>rfl) (a:=b) (n:=ss) (e:=false) e9 (by omega) (by omega)
 obtain⟨ct,rfl,yK,CH⟩:=CG.val.resolve_left fun h=>by have:=congrArg List.length h.1;simp only[List.length_nil] at this;omega
 rw[qG] at aj
 obtain⟨v2,h2,aq,zt⟩:=JK [] {cells:=ae.cells,shut:=ae.shut,next:=ae.next+4,bu:=ae.bu} (fun j=>by show ae.shut j=false;rw[CG.kept.shut]) (a:=a) (n:=ss) (e:=false) ml (by omega) (by omega)
 obtain⟨fm,mO⟩:∃fm,a*2^ss=fm:=⟨_,rfl⟩
 obtain⟨Y,m9⟩:∃Y,b*2^ss=Y:=⟨_,rfl⟩
 obtain⟨d1,d2,d3⟩:=TO aU J5 mO ml
 have aad:=lk.2 ml
 rw[mO] at zt
 rw[m9] at CH u7 th qG
 obtain⟨ej,rfl,pP,TV⟩:=zt.val.resolve_left fun h=>by have:=congrArg List.length h.1;simp only[List.length_nil] at this;omega
 obtain⟨xf,TW⟩:∃xf,(ai fm).length=xf:=⟨_,rfl⟩
 rw[TW] at aq d1 d2
 have TX:fy h2 ct (ai Y):=(CH.bump (ae.next+4) ae.bu (by omega)).kept zt.kept
 have cp:ej≠ct:=by have:=CH.fx;simp only at pP;omega
 refine al [0,1,4,5,6,7,8,10,11,12,13,14,15,16,17,21,27,61,76,119] fun F=>?_
 simp only[ak]
 intro f0 f1 f4 f5 f6 f7 f8 f10 f11 f12 f13 f14 f15 f16 f17 f21 f27 f61 f76 f119
 simp[a8] at f0 f1 f4 f5 f6 f7 f8 f10 f11 f12 f13 f14 f15 f16 f17 f21 f27 f61 f76 f119
 repeat' (first
  | refine ax ?_
  | ((fail_if_success (refine aQ ?_));(fail_if_success (refine aR ?_));refine aL ?_)
  | ((first|(refine az cz ?_;simp(disch:=omega) [aj,aq,ds,fl,lN,aC,aU,od,nS,ew,tj,f0,f1,f4,f5,f6,f7,f8,f10,f11,f12,f13,f14,f15,f16,f17,f21,f27,f61,f76,f119];(try(refine⟨by first|decide|rfl,?_⟩)))|(refine aK ?_;simp(disch:=omega) [aj,aq,ds,fl,lN,aC,aU,od,nS,ew,tj,f0,f1,f4,f5,f6,f7,f8,f10,f11,f12,f13,f14,f15,f16,f17,f21,f27,f61,f76,f119]));(try(refine al [0,1,4,5,6,7,8,10,11,12,13,14,15,16,17,21,27,61,76,119] ?_;intro F;simp only[ak];intro U ab ad ah ag ar ao aB bA aX aZ bs bE bQ bx dx c5 cM eG dz;simp(disch:=omega) [aj,aq,ds,fl,lN,aC,aU,od,nS,ew,tj,f0,f1,f4,f5,f6,f7,f8,f10,f11,f12,f13,f14,f15,f16,f17,f21,f27,f61,f76,f119] at U ab ad ah ag ar ao aB bA aX aZ bs bE bQ bx dx c5 cM eG dz;clear f0 f1 f4 f5 f6 f7 f8 f10 f11 f12 f13 f14 f15 f16 f17 f21 f27 f61 f76 f119;have f0:=U;have f1:=ab;have f4:=ad;have f5:=ah;have f6:=ag;have f7:=ar;have f8:=ao;have f10:=aB;have f11:=bA;have f12:=aX;have f13:=aZ;have f14:=bs;have f15:=bE;have f16:=bQ;have f17:=bx;have f21:=dx;have f27:=c5;have f61:=cM;have f76:=eG;have f119:=dz;clear U ab ad ah ag ar ao aB bA aX aZ bs bE bQ bx dx c5 cM eG dz)))
  | (refine aJ _ (by simp(disch:=omega) [aj,aq,ds,fl,lN,aC,aU,od,nS,ew,tj,f0,f1,f4,f5,f6,f7,f8,f10,f11,f12,f13,f14,f15,f16,f17,f21,f27,f61,f76,f119];rfl) (fun I=>?_) (fun I=>?_)<;>first|(exfalso;simp(disch:=omega) [aj,aq,ds,fl,lN,aC,aU,od,nS,ew,tj] at I;done)|(exfalso;simp at I;omega)|(simp at I))
  | ((first|refine aH ?_|refine aN ?_);simp(disch:=omega) [aj,aq,ds,fl,lN,aC,aU,od,nS,ew,tj,f0,f1,f4,f5,f6,f7,f8,f10,f11,f12,f13,f14,f15,f16,f17,f21,f27,f61,f76,f119]))
 refine na (fun k s=>k<=1/\JZ (A+1 - k) fm Y ct s) (JZ (A+1) fm Y ct) (fun _=>False) (A+1 - xf) ?_ ?_ ?_ (fun _ _ h=>h.elim)
 · refine⟨by omega,fun j=>?_,TX.bump _ _ (by omega),ej,ai fm,?_,by omega,du fm,dW fm,cp,TV.bump _ _ (by omega)⟩
   · show h2.shut j=false;rw[zt.kept.shut];show ae.shut j=false;rw[CG.kept.shut]
   · rw[show A+1 -(A+1 - xf)=xf by omega];exact f12
 · rintro k s aI ⟨v3,cG,W,r,c2,dh,nd,xg,xs,cp,V⟩
   replace f0:=(aI 0 rfl).trans f0;replace f1:=(aI 1 rfl).trans f1;replace f11:=(aI 11 rfl).trans f11
   clear f12
   have gA:=V.cells
   have l7:=cG r
   cases k with
   | zero=>
     have f12:=dh
     refine al [0,1,11,12,61] ?_
     intro F
     simp only[ak]
     intro U ab bA aX cM
     try simp[aS,f0,f1,f11,f12] at U ab bA aX cM
     clear f0 f1 f11 f12
     have f0:=U
     have f1:=ab
     have f11:=bA
     have f12:=aX
     have f61:=cM
     clear U ab bA aX cM
     repeat' (first
      | refine ax ?_
      | ((fail_if_success (refine aQ ?_));(fail_if_success (refine aR ?_));refine aL ?_)
      | ((first|(refine az cz ?_;simp(disch:=omega) [aU,f0,f1,f11,f12,f61];(try(refine⟨by first|decide|rfl,?_⟩)))|(refine aK ?_;simp(disch:=omega) [aU,f0,f1,f11,f12,f61]));(try(refine al [0,1,11,12,61] ?_;intro F;simp only[ak];intro U ab bA aX cM;simp(disch:=omega) [aU,f0,f1,f11,f12,f61] at U ab bA aX cM;clear f0 f1 f11 f12 f61;have f0:=U;have f1:=ab;have f11:=bA;have f12:=aX;have f61:=cM;clear U ab bA aX cM)))
      | (refine aJ _ (by simp(disch:=omega) [aU,f0,f1,f11,f12,f61];rfl) (fun I=>?_) (fun I=>?_)<;>first|(exfalso;simp(disch:=omega) [aU] at I;done)|(exfalso;simp at I;omega)|(simp at I))
      | ((first|refine aH ?_|refine aN ?_);simp(disch:=omega) [aU,f0,f1,f11,f12,f61]))
     exact ⟨cG,W.bump _ _ (by omega),r,c2,f12,nd,xg,xs,cp,V.bump _ _ (by omega)⟩
   | succ k=>
     obtain rfl:k=0:=by omega
     rw[show A+1 -(0+1)=A by omega] at dh nd
     have f12:=dh
     have ap:=fun q m p=>TP (r:=q) (h:=⟨s.h.cells,s.h.shut,m,p⟩) (v:=0) (e:=true) l7 gA nd (by omega) (by omega)
     refine al [0,1,11,12,61] ?_
     intro F
     simp only[ak]
     intro U ab bA aX cM
     try simp[aS,f0,f1,f11,f12] at U ab bA aX cM
     clear f0 f1 f11 f12
     have f0:=U
     have f1:=ab
     have f11:=bA
     have f12:=aX
     have f61:=cM
     clear U ab bA aX cM
     repeat' (first
      | refine ax ?_
      | ((fail_if_success (refine aQ ?_));(fail_if_success (refine aR ?_));refine aL ?_)
      | ((first|(refine az cz ?_;simp(disch:=omega) [aU,ap,f0,f1,f11,f12,f61];(try(refine⟨by first|decide|rfl,?_⟩)))|(refine aK ?_;simp(disch:=omega) [aU,ap,f0,f1,f11,f12,f61]));(try(refine al [0,1,11,12,61] ?_;intro F;simp only[ak];intro U ab bA aX cM;simp(disch:=omega) [aU,ap,f0,f1,f11,f12,f61] at U ab bA aX cM;clear f0 f1 f11 f12 f61;have f0:=U;have f1:=ab;have f11:=bA;have f12:=aX;have f61:=cM;clear U ab bA aX cM)))
      | (refine aJ _ (by simp(disch:=omega) [aU,ap,f0,f1,f11,f12,f61];rfl) (fun I=>?_) (fun I=>?_)<;>first|(exfalso;simp(disch:=omega) [aU,ap] at I;done)|(exfalso;simp at I;omega)|(simp at I))
      | ((first|refine aH ?_|refine aN ?_);simp(disch:=omega) [aU,ap,f0,f1,f11,f12,f61]))
     refine⟨cG,⟨?_,W.bD,by have:=W.fx;show ct<s.h.next+5+2+2;omega⟩,s.h.next+5+2,c2++ [0],by simp[aG],by simp;omega,by rw[mU];simp[val];exact xg,o_.2 ⟨xs,mi.2 ⟨by decide,Small.nil⟩⟩,by have:=W.fx;omega,⟨by simp[aG],cG _,by show s.h.next+5+2<s.h.next+5+2+2;omega⟩⟩
     show aG (aG s.h.cells r none) (s.h.next+5+2) _ ct=_
     have:=W.fx
     simp only[aG]
     rw[if_neg (by omega),if_neg (fun h=>cp h.symm)]
     exact W.cells
 · rintro s aI ⟨cG,W,r,c2,dh,nd,xg,xs,cp,V⟩
   replace f0:=(aI 0 rfl).trans f0;replace f1:=(aI 1 rfl).trans f1;replace f10:=(aI 10 rfl).trans f10;replace f11:=(aI 11 rfl).trans f11
   clear f12
   have aae:n<=A:=by rw[<-aC,<-aU];exact f_ J4
   obtain⟨m,hm⟩:∃m,A+1=m+n:=⟨A+1 - n,by omega⟩
   rw[hm] at dh nd
   have f12:=dh
   have hw:IntKind.i64.wrap (Z (m+n) - Z n)=Z m:=by rw[eh (by omega) (by omega)];rw[Nat.add_sub_cancel]
   have ta:IntKind.i64.wrap (Z m - Z 1)=lK m:=nb (by omega)
   have vd:Z m*4<=140737488355328:=by simp only[Z];omega
   refine al [10,11,12,13,14,15,76] ?_
   intro F
   simp only[ak]
   intro aB bA aX aZ bs bE eG
   try simp[aS,f0,f1,f10,f11,f12] at aB bA aX aZ bs bE eG
   clear f0 f1 f10 f11 f12
   have f10:=aB
   have f11:=bA
   have f12:=aX
   have f13:=aZ
   have f14:=bs
   have f15:=bE
   have f76:=eG
   clear aB bA aX aZ bs bE eG
   repeat' (first
    | refine ax ?_
    | ((fail_if_success (refine aQ ?_));(fail_if_success (refine aR ?_));refine aL ?_)
    | ((first|(refine az cz ?_;simp(disch:=omega) [hw,ta,vd,h6,f10,f11,f12,f13,f14,f15,f76];(try(refine⟨by first|decide|rfl,?_⟩)))|(refine aK ?_;simp(disch:=omega) [hw,ta,vd,h6,f10,f11,f12,f13,f14,f15,f76]));(try(refine al [10,11,12,13,14,15,76] ?_;intro F;simp only[ak];intro aB bA aX aZ bs bE eG;simp(disch:=omega) [hw,ta,vd,h6,f10,f11,f12,f13,f14,f15,f76] at aB bA aX aZ bs bE eG;clear f10 f11 f12 f13 f14 f15 f76;have f10:=aB;have f11:=bA;have f12:=aX;have f13:=aZ;have f14:=bs;have f15:=bE;have f76:=eG;clear aB bA aX aZ bs bE eG)))
    | (refine aJ _ (by simp(disch:=omega) [hw,ta,vd,h6,f10,f11,f12,f13,f14,f15,f76];rfl) (fun I=>?_) (fun I=>?_)<;>first|(exfalso;simp(disch:=omega) [hw,ta,vd,h6] at I;done)|(exfalso;simp at I;omega)|(simp at I))
    | ((first|refine aH ?_|refine aN ?_);simp(disch:=omega) [hw,ta,vd,h6,f10,f11,f12,f13,f14,f15,f76]))
   obtain⟨q,bo⟩:∃q,q=s.h.next+3+4:=⟨_,rfl⟩
   rw[<-bo] at f14
   have tk:q≠r:=by have:=V.fx;omega
   have qI:q≠ct:=by have:=W.fx;omega
   have rD:0<Y:=by have:=kO n;omega
   refine na (fun k s=>k<=m/\JW m n fm Y ct r q k s/\s.F 15= .int .i64 (lK k)) (JW m n fm Y ct r q 0) (fun _=>False) m ?_ ?_ ?_ (fun _ _ h=>h.elim)
   · have wn:=W.fx
     have aaf:=V.fx
     refine⟨Nat.le_refl _,⟨cG,?_,c2,List.replicate m 0,nd,by simp,xs,qs _,?_,?_,fun j _=>wN _ _,by rw[sG,Nat.zero_mul,Nat.zero_add];exact xg,?_⟩,f15⟩
     · refine⟨?_,W.bD,by show ct<s.h.next+3+6+4;omega⟩
       show aG s.h.cells (s.h.next+3+4) _ ct=_
       simp only[aG]
       rw[if_neg (by omega)]
       exact W.cells
     · refine⟨?_,V.bD,by show r<s.h.next+3+6+4;omega⟩
       show aG s.h.cells (s.h.next+3+4) _ r=_
       simp only[aG]
       rw[if_neg (by omega)]
       exact V.cells
     · refine⟨?_,cG _,by show q<s.h.next+3+6+4;omega⟩
       show aG s.h.cells (s.h.next+3+4) _ q=_
       rw[bo]
       simp only[aG,if_true]
     · rw[xg]
       have e:aE m*aE n=aE A*4294967296:=by rw[<-hg,<-hm,eQ]
       have aq:=Nat.mul_le_mul_left (aE m) th
       rw[e,Nat.mul_left_comm] at aq
       omega
   · rintro k s aI ⟨aag,⟨cG,W,c2,fO,nd,k9,xs,xh,V,mf,xi,aY,b6⟩,CI⟩
     replace f10:=(aI 10 rfl).trans f10;replace f11:=(aI 11 rfl).trans f11;replace f12:=(aI 12 rfl).trans f12;replace f13:=(aI 13 rfl).trans f13;replace f14:=(aI 14 rfl).trans f14
     clear f15
     have eU:=W.cells
     have fN:=lq (show 0<(ai Y).length by omega)
     cases k with
     | zero=>
       have f15:=CI
       refine al [10,11,12,13,14,15,16,76,119] ?_
       intro F
       simp only[ak]
       intro aB bA aX aZ bs bE bQ eG dz
       try simp[aS,f10,f11,f12,f13,f14,f15] at aB bA aX aZ bs bE bQ eG dz
       clear f10 f11 f12 f13 f14 f15
       have f10:=aB
       have f11:=bA
       have f12:=aX
       have f13:=aZ
       have f14:=bs
       have f15:=bE
       have f16:=bQ
       have f76:=eG
       have f119:=dz
       clear aB bA aX aZ bs bE bQ eG dz
       rw[sJ] at f15
       repeat' (first
        | refine ax ?_
        | ((fail_if_success (refine aQ ?_));(fail_if_success (refine aR ?_));refine aL ?_)
        | ((first|(refine az cz ?_;simp(disch:=omega) [lZ,f10,f11,f12,f13,f14,f15,f16,f76,f119];(try(refine⟨by first|decide|rfl,?_⟩)))|(refine aK ?_;simp(disch:=omega) [lZ,f10,f11,f12,f13,f14,f15,f16,f76,f119]));(try(refine al [10,11,12,13,14,15,16,76,119] ?_;intro F;simp only[ak];intro aB bA aX aZ bs bE bQ eG dz;simp(disch:=omega) [lZ,f10,f11,f12,f13,f14,f15,f16,f76,f119] at aB bA aX aZ bs bE bQ eG dz;clear f10 f11 f12 f13 f14 f15 f16 f76 f119;have f10:=aB;have f11:=bA;have f12:=aX;have f13:=aZ;have f14:=bs;have f15:=bE;have f16:=bQ;have f76:=eG;have f119:=dz;clear aB bA aX aZ bs bE bQ eG dz)))
        | (refine aJ _ (by simp(disch:=omega) [lZ,f10,f11,f12,f13,f14,f15,f16,f76,f119];rfl) (fun I=>?_) (fun I=>?_)<;>first|(exfalso;simp(disch:=omega) [lZ] at I;done)|(exfalso;simp at I;omega)|(simp at I))
        | ((first|refine aH ?_|refine aN ?_);simp(disch:=omega) [lZ,f10,f11,f12,f13,f14,f15,f16,f76,f119]))
       exact ⟨cG,W.bump _ _ (by omega),c2,fO,nd,k9,xs,xh,V.bump _ _ (by omega),mf.bump _ _ (by omega),xi,aY,b6⟩
     | succ i=>
       rw[uo] at CI
       have f15:=CI
       have h8:i<m:=by omega
       obtain⟨pX,pV,TY,TZ,T0,aah⟩:=TQ xs (by omega) u7 th b6
       have dD:=xs.a5 (i+n)
       have ck:=xs.a5 (i+n - 1)
       have gI:=xs.a5 (i+n - 2)
       have T1:=(dW Y).a5 (n - 1)
       have T2:=(dW Y).a5 (n - 2)
       have eo:=S_ (a5 c2 (i+n),a5 c2 (i+n - 1),a5 c2 (i+n - 2),a5 (ai Y) (n - 1),a5 (ai Y) (n - 2)) ⟨pV,ck,gI,T1,T2,TY⟩ (args:=[b2 (a5 c2 (i+n)),b2 (a5 c2 (i+n - 1)),b2 (a5 c2 (i+n - 2)),b2 (a5 (ai Y) (n - 1)),b2 (a5 (ai Y) (n - 2))]) (by simp)
       simp only at eo
       have aai:=JA (x2:=a5 c2 (i+n)) (x1:=a5 c2 (i+n - 1)) (x0:=a5 c2 (i+n - 2)) (y1:=a5 (ai Y) (n - 1)) (y0:=a5 (ai Y) (n - 2))
       generalize mD (a5 c2 (i+n)) (a5 c2 (i+n - 1)) (a5 c2 (i+n - 2)) (a5 (ai Y) (n - 1)) (a5 (ai Y) (n - 2))=g at*
       have gA:=V.cells
       have l7:=cG r
       obtain⟨pf,aO,aW,o0,dF,rfl,TT,CJ,J6,uQ,T3,CK,tl⟩:=Tu [] ⟨s.h.cells,s.h.shut,s.h.next+2+32+10,s.h.bu⟩ (id:=r) (ry:=ct) (off:=i) (n:=n) (cap:=m+n - i) (Yv:=Y) (g:=g) (V.bump _ _ (by omega)) (W.bump _ _ (by omega)) (Ne.symm cp) qG (by omega) xs (by omega) (by omega) (by omega)
       have T4:val o0<aE i*aE (n+1):=by
        rw[<-hg];exact zq CJ (fun j bb=>by rw[J6 j (.inr (by omega))];exact JV xs pX (by omega))
       have T5:val c2<aE i*aE (n+1):=by rw[<-hg];exact pX
       obtain⟨T6,T7,J7,aaj⟩:=TF (kO i) rD rfl TZ T0 T3 uQ T4 T5
       generalize val c2/aE i/Y=Q at*
       have fx:=mf.fx
       have zr:=V.fx
       have zs:=W.fx
       have qH:aO.cells q=some (cm fO):=by rw[tl.cells q (by show q<s.h.next+2+32+10;omega) tk];exact mf.cells
       have nf:=lq (show 0<fO.length by omega)
       have zu:∀j,aO.shut j=false:=fun j=>by rw[tl.shut];exact cG j
       have rE:=zu q
       have J8:∀v,val (fO.set i v)=val fO+aE i*v:=fun v=>by
        have:=nw v (show i<fO.length by omega)
        rw[xi i (by omega),Nat.mul_zero,Nat.add_zero] at this;exact this
       have T8:=tl.next
       simp only at T8
       rcases (show dF=0\/dF=1 by omega) with rfl|rfl
       · obtain⟨rfl,av⟩:=T6 rfl
         obtain⟨CL,CM⟩:=J0 (J8 g) aY av J7
         have T9:=tl.vec (W.bump (s.h.next+2+32+10) s.h.bu (by omega)) (Ne.symm cp)
         have CN:=tl.vec (mf.bump (s.h.next+2+32+10) s.h.bu (by omega)) tk
         have CO:=TR (by omega) (by omega) h8 qG nd k9 f10 f11 f12 f13 f14 f15 gA eU l7 zr zs eo (by omega) (aW.trans (by simp)) qH rE
         refine CO.mono fun ex aD ⟨hex,CP,cd,Iz,de⟩=>?_
         subst hex
         show ∃j,_
         refine⟨i,Nat.lt_succ_self i,by omega,?_,CP⟩
         refine⟨?_,?_,o0,fO.set i g,by omega,by rw[List.length_set];exact k9,CJ,nx xh (by omega),?_,?_,fun j bb=>by rw[ou _ _ (by omega),if_neg (by omega)];exact xi j (by omega),CL,CM⟩
         · rw[de];exact zu
         · rw[de];exact T9.off (Ne.symm qI) _ _ _ (by omega)
         · rw[de];exact CK.off (Ne.symm tk) _ _ _ (by omega)
         · rw[de];exact CN.put _ _ _ (by omega)
       · obtain⟨rfl,av⟩:=T7 rfl
         have J9:=tl.vec (W.bump (s.h.next+2+32+10) s.h.bu (by omega)) (Ne.symm cp)
         obtain⟨v4,a2,bW,wc,d4,rfl,aak,J_,T_,T',Ua,xj⟩:=Tv [] ⟨aO.cells,aO.shut,aO.next+3+9,aO.bu⟩ (id:=r) (ry:=ct) (off:=i) (n:=n) (cap:=m+n - i) (Yv:=Y) (CK.bump _ _ (by omega)) (J9.bump _ _ (by omega)) (Ne.symm cp) qG (by omega) CJ (by omega) (by omega)
         have Ub:val wc<aE i*aE (n+1):=by
          rw[<-hg];exact zq J_ (fun j bb=>by rw[T_ j (.inr (by omega)),J6 j (.inr (by omega))];exact JV xs pX (by omega))
         have CQ:=av (val wc) d4 T' Ub
         have Uc:=xj.next
         simp only at Uc
         have rF:a2.cells q=some (cm fO):=by rw[xj.cells q (by show q<aO.next+3+9;omega) tk];exact qH
         have J':∀j,a2.shut j=false:=fun j=>by rw[xj.shut];exact zu j
         have rG:=J' q
         obtain⟨CL,CM⟩:=J0 (J8 Q) aY CQ J7
         have Ud:=xj.vec (J9.bump (aO.next+3+9) aO.bu (by omega)) (Ne.symm cp)
         have CN:=tl.vec (mf.bump (s.h.next+2+32+10) s.h.bu (by omega)) tk
         have Ue:=xj.vec (CN.bump (aO.next+3+9) aO.bu (by omega)) tk
         have CO:=TS (by omega) (by omega) h8 qG nd k9 f10 f11 f12 f13 f14 f15 gA eU l7 zr zs eo (by omega) (aW.trans (by simp)) (by omega) (by omega) (show o0.length=m+n by omega) CK.cells (zu r) bW rF rG
         refine CO.mono fun ex aD ⟨hex,CP,cd,Iz,de⟩=>?_
         subst hex
         show ∃j,_
         refine⟨i,Nat.lt_succ_self i,by omega,?_,CP⟩
         refine⟨?_,?_,wc,fO.set i Q,by omega,by rw[List.length_set];exact k9,J_,nx xh (by omega),?_,?_,fun j bb=>by rw[ou _ _ (by omega),if_neg (by omega)];exact xi j (by omega),CL,CM⟩
         · rw[de];exact J'
         · rw[de];exact Ud.off (Ne.symm qI) _ _ _ (by omega)
         · rw[de];exact Ua.off (Ne.symm tk) _ _ _ (by omega)
         · rw[de];exact Ue.put _ _ _ (by omega)
   · rintro s aI ⟨cG,W,c2,fO,nd,k9,xs,xh,V,mf,xi,aY,b6⟩
     replace f10:=(aI 10 rfl).trans f10;replace f11:=(aI 11 rfl).trans f11;replace f12:=(aI 12 rfl).trans f12;replace f13:=(aI 13 rfl).trans f13;replace f14:=(aI 14 rfl).trans f14
     clear f15
     rw[fC,Nat.one_mul] at b6
     obtain⟨Ka,Uf⟩:val fO=fm/Y/\val c2=fm%Y:=by
      have:fm/Y=val fO/\fm%Y=val c2:=(Nat.div_mod_unique rD).2 ⟨by rw[Nat.mul_comm];omega,b6⟩
      exact ⟨this.1.symm,this.2.symm⟩
     have Kb:fm/Y=a/b:=by rw[<-mO,<-m9];exact Nat.mul_div_mul_right _ _ (Nat.pow_pos (by decide))
     have Ug:fm%Y/2^ss=a%b:=by
      rw[<-mO,<-m9,Nat.mul_mod_mul_right];exact Nat.mul_div_cancel _ (Nat.pow_pos (by decide))
     have Uh:val fO=a/b:=Ka.trans Kb
     clear Ka Kb
     obtain⟨qB,cf,ea,CR⟩:=CD [] ⟨s.h.cells,s.h.shut,s.h.next+9,s.h.bu⟩ cG (q:=q) (o:=fO) (mf.bump _ _ (by omega)) xh (by omega) (by omega)
     obtain⟨v6,dS,fW,CS⟩:=CD [] cf (fun j=>by rw[CR.kept.shut];exact cG j) (q:=r) (o:=c2) ((V.bump (s.h.next+9) s.h.bu (by omega)).kept CR.kept) xs (by omega) (by omega)
     have Kc:=CR.later CS.kept
     rw[Uh] at Kc
     rw[Uf] at CS
     obtain⟨aal,aam,ve⟩:=Kc.outs
     obtain⟨aan,Ui,tm⟩:=CS.outs
     have vf:=tm dS.shut dS.next dS.bu
     have Uj:(ai (fm%Y)).length<=100000000:=by
      have:=f_ (Nat.le_of_lt (Nat.mod_lt fm rD))
      omega
     have tn:=IP (fm%Y,ss) ⟨Uj,by simp only;omega⟩ (args:=[cH (ai (fm%Y)) Ui,bp ss]) (by simp)
     simp only[Ug] at tn
     have aao:=f10
     rw[k9] at ea
     rw[nd] at fW
     generalize fm%Y=aap at*
     generalize a/b=aaq at*
     generalize a%b=q4 at*
     refine al [4,5,6,10,12,14] ?_
     intro F
     simp only[ak]
     intro ad ah ag aB aX bs
     try simp[aS,f10,f12,f14] at ad ah ag aB aX bs
     clear f10 f12 f14
     have f4:=ad
     have f5:=ah
     have f6:=ag
     have f10:=aB
     have f12:=aX
     have f14:=bs
     clear ad ah ag aB aX bs
     repeat' (first
      | refine ax ?_
      | ((fail_if_success (refine aQ ?_));(fail_if_success (refine aR ?_));refine aL ?_)
      | ((first|(refine az cz ?_;simp(disch:=omega) [ea,fW,tm,vf,tn,ve,f4,f5,f6,f10,f12,f14];(try(refine⟨by first|decide|rfl,?_⟩)))|(refine aK ?_;simp(disch:=omega) [ea,fW,tm,vf,tn,ve,f4,f5,f6,f10,f12,f14]));(try(refine al [4,5,6,10,12,14] ?_;intro F;simp only[ak];intro ad ah ag aB aX bs;simp(disch:=omega) [ea,fW,tm,vf,tn,ve,f4,f5,f6,f10,f12,f14] at ad ah ag aB aX bs;clear f4 f5 f6 f10 f12 f14;have f4:=ad;have f5:=ah;have f6:=ag;have f10:=aB;have f12:=aX;have f14:=bs;clear ad ah ag aB aX bs)))
      | (refine aJ _ (by simp(disch:=omega) [ea,fW,tm,vf,tn,ve,f4,f5,f6,f10,f12,f14];rfl) (fun I=>?_) (fun I=>?_)<;>first|(exfalso;simp(disch:=omega) [ea,fW,tm,vf,tn,ve] at I;done)|(exfalso;simp at I;omega)|(simp at I))
      | ((first|refine aH ?_|refine aN ?_);simp(disch:=omega) [ea,fW,tm,vf,tn,ve,f4,f5,f6,f10,f12,f14]))
end
end
section
open Go Go.Eng Go.RowKit
theorem Kd:bl Tryz.prog G 122 u6:=
 TA (fun z w h=>by
  simp only[List.cons.injEq,bT,and_true] at h
  rw[h.1,h.2]) xe TL TU
end
section
set_option maxHeartbeats 8000000
open Go Go.Eng Go.RowKit
attribute [local simp] bH.m bH.o bH.n bH.g hy fh dG dr dJ evalOp.eq_1 evalOp.eq_2 evalOp.eq_3 evalOp.eq_4 evalOp.eq_5 evalOp.eq_6 evalOp.eq_7 evalOp.eq_8 evalOp.eq_9 evalOp.eq_10 evalOp.eq_11 evalOp.eq_12 evalOp.eq_13 evalOp.eq_14 evalOp.eq_15 evalOp.eq_16 evalOp.eq_17 evalOp.eq_18 evalOp.eq_19 evalOp.eq_20 evalOp.eq_21 evalOp.eq_22 evalOp.eq_23 evalOp.eq_24 evalOp.eq_25 evalOp.eq_27 evalOp.eq_28 evalOp.eq_29 kl bn.cu dq aG aF.new a8 J.cells J.dp J.e7 J.ft il iq im ir iv iu jK jL jM gY gZ cut partOf bound elems jO jP jQ jR jS jT jU jV jW jX jY jZ h1 j0 j1 j2 j3 j4 j5 j6 j7 j8 j9 j_ j' ka kb kc kd ke kf kg kh ki kj kk ff e8 e1 gi iw hA aF.close aF.set h3 km kn ko jN hB gD gq gJ gr hX gu gK hY hZ h0 gf gg gh gd ix bI hU iy hV iz iA fY iB fw iC iD iE gT jJ iF iG iH iI iJ iK iL iM iN iO iP iQ iR iS iT iU iV iW iX hf iY iZ i_ i' ja jb jc jd je jf jg jh ji jj jk
attribute [local simp high] jG jH jI jl jm jn jo jq jr js jt ju jv jw jx jy jz jA jB jC jD jE jF
attribute [local simp] aS List.getElem?_cons_zero List.getElem?_cons_succ fa eh gl Nat.mod_eq_of_lt kH kI kJ kK gL kL kM kN
section
attribute [local irreducible] cQ
attribute [local simp] ek eL du
noncomputable def Uk:FuncId->Option (List J->Option J):=da []
theorem Ul:∀f T,Uk f=some T->bl Tryz.prog G f T:=dc (by simp)
theorem Ke:aw 1= .sl [.int .u32 (Z 1)] false:=by simp only[aw,lX];rfl
noncomputable def zv:List J->Option J:=cl (fun z:Unit=>True) (fun z=>[]) (fun z=>aw 1)
theorem Um (z:Unit) (h:True) {args:List J} (he:args.map J.loose= []):zv args=some (aw 1):=cI (fun z w h=>by first|(simp only[List.cons.injEq,J.int.injEq,J.bool.injEq,J.sl.injEq,bT,bU,bY,bZ,bX,bG,bL,bV,bI,true_and,and_true] at h;simp[h];done)|(simp only[J.agg.injEq,List.cons.injEq,J.int.injEq,J.bool.injEq,J.sl.injEq,bT,bU,bY,bZ,bX,bG,bL,bV,bI,true_and,and_true] at h;simp[h])) z h he
theorem Un:bl Tryz.prog G 123 zv:=by
 refine cJ mixed Ul G4 fun z aV=>?_
 rw[Ke]
 unfold i123
 refine al [0] fun F=>?_
 simp only[ak]
 intro f0
 simp[a8] at f0
 repeat' (first
  | refine ax ?_
  | ((fail_if_success (refine aQ ?_));(fail_if_success (refine aR ?_));refine aL ?_)
  | ((first|(refine az aM ?_;simp(disch:=omega) [f0];(try(refine⟨by first|decide|rfl,?_⟩)))|(refine aK ?_;simp(disch:=omega) [f0]));(try(refine al [0] ?_;intro F;simp only[ak];intro U;simp(disch:=omega) [f0] at U;clear f0;have f0:=U;clear U)))
  | (refine aJ _ (by simp(disch:=omega) [f0];rfl) (fun I=>?_) (fun I=>?_)<;>first|(exfalso;simp(disch:=omega) at I;done)|(exfalso;simp at I;omega)|(simp at I))
  | ((first|refine aH ?_|refine aN ?_);simp(disch:=omega) [f0]))
noncomputable def vg:FuncId->Option (List J->Option J):=da [(122,u6),(80,hi),(107,ow),(97,nE),(123,zv)]
theorem Uo:∀f T,vg f=some T->bl Tryz.prog G f T:=dc (by simp only[List.forall_mem_cons];exact ⟨Kd,sR,wT,w0,Un,fun _ h=>absurd h (by simp)⟩)
theorem Up:vg 122=some u6:=rfl
theorem Uq:vg 80=some hi:=rfl
theorem Ur:vg 107=some ow:=rfl
theorem Us:vg 97=some nE:=rfl
theorem Ut:vg 123=some zv:=rfl
attribute [local simp] Up Uq Ur Us Ut
noncomputable def vh:List J->Option J:=cl (fun z:Int × Int=>bS z.1<=1000000/\bS z.2<=1000000) (fun z=>[a7 z.1,a7 z.2]) (fun z=>if z.2=0 then .cb [a7 0,a7 0,bp 3] else .cb [a7 (z.1/z.2),a7 (z.1%z.2),bp 0])
theorem Kf (z:Int × Int) (h:bS z.1<=1000000/\bS z.2<=1000000) {args:List J} (he:args.map J.loose= [a7 z.1,a7 z.2]):vh args=some (if z.2=0 then .cb [a7 0,a7 0,bp 3] else .cb [a7 (z.1/z.2),a7 (z.1%z.2),bp 0]):=cI (fun z w h=>by first|(simp only[List.cons.injEq,J.int.injEq,J.bool.injEq,J.sl.injEq,bT,bU,bY,bZ,bX,bG,bL,bV,bI,true_and,and_true] at h;simp[h];done)|(simp only[J.agg.injEq,List.cons.injEq,J.int.injEq,J.bool.injEq,J.sl.injEq,bT,bU,bY,bZ,bX,bG,bL,bV,bI,true_and,and_true] at h;simp[h])) z h he
theorem Kg:bl Tryz.prog G 76 vh:=by
 refine cJ mixed Uo Gu fun z aV=>?_
 obtain⟨a,b⟩:=z
 obtain⟨bF,au⟩:=aV
 simp only[bS] at bF au|-
 have bB:=JU (a.natAbs,b.natAbs) ⟨by simp only;omega,by simp only;omega⟩ (args:=[aw a.natAbs,aw b.natAbs]) (by simp)
 simp only at bB
 unfold i76
 by_cases e9:b=0
 · rw[if_pos e9]
   subst e9
   rw[if_pos (show (0:Int).natAbs=0 from rfl)] at bB
   have bM:ai 0= []:=eX
   have b7:b' 0=false:=rfl
   simp only[aw,cH,Int.natAbs_zero,bM,List.map_nil] at bB
   refine al [0,1,2,3,4,5,6,7,8,9,20,30] fun F=>?_
   simp only[ak]
   intro f0 f1 f2 f3 f4 f5 f6 f7 f8 f9 f20 f30
   simp[a8] at f0 f1 f2 f3 f4 f5 f6 f7 f8 f9 f20 f30
   repeat' (first
    | refine ax ?_
    | ((fail_if_success (refine aQ ?_));(fail_if_success (refine aR ?_));refine aL ?_)
    | ((first|(refine az aM ?_;simp(disch:=omega) [bB,bM,b7,f0,f1,f2,f3,f4,f5,f6,f7,f8,f9,f20,f30];(try(refine⟨by first|decide|rfl,?_⟩)))|(refine aK ?_;simp(disch:=omega) [bB,bM,b7,f0,f1,f2,f3,f4,f5,f6,f7,f8,f9,f20,f30]));(try(refine al [0,1,2,3,4,5,6,7,8,9,20,30] ?_;intro F;simp only[ak];intro U ab aa af ad ah ag ar ao aA bO cU;simp(disch:=omega) [bB,bM,b7,f0,f1,f2,f3,f4,f5,f6,f7,f8,f9,f20,f30] at U ab aa af ad ah ag ar ao aA bO cU;clear f0 f1 f2 f3 f4 f5 f6 f7 f8 f9 f20 f30;have f0:=U;have f1:=ab;have f2:=aa;have f3:=af;have f4:=ad;have f5:=ah;have f6:=ag;have f7:=ar;have f8:=ao;have f9:=aA;have f20:=bO;have f30:=cU;clear U ab aa af ad ah ag ar ao aA bO cU)))
    | (refine aJ _ (by simp(disch:=omega) [bB,bM,b7,f0,f1,f2,f3,f4,f5,f6,f7,f8,f9,f20,f30];rfl) (fun I=>?_) (fun I=>?_)<;>first|(exfalso;simp(disch:=omega) [bB,bM,b7] at I;done)|(exfalso;simp at I;omega)|(simp at I))
    | ((first|refine aH ?_|refine aN ?_);simp(disch:=omega) [bB,bM,b7,f0,f1,f2,f3,f4,f5,f6,f7,f8,f9,f20,f30,bM,b7]))
 · rw[if_neg e9]
   rw[if_neg (by omega)] at bB
   have bo:=f_ (Nat.div_le_self a.natAbs b.natAbs)
   have bf:=f_ (Nat.mod_le a.natAbs b.natAbs)
   by_cases aV:b' a=false\/a.natAbs%b.natAbs=0
   · obtain⟨d1,d2⟩:=JR a b e9 aV
     have t1:=sU (b:=b' a != b' b) (n:=a.natAbs/b.natAbs) (by omega)
     have t2:=sU (b:=false) (n:=a.natAbs%b.natAbs) (by omega)
     rw[d1] at t1
     rw[d2] at t2
     clear d1 d2
     generalize a/b=Q at*
     generalize a%b=R at*
     generalize a.natAbs/b.natAbs=q at*
     generalize a.natAbs%b.natAbs=r at*
     cases aU:b' a<;>cases a9:b' b<;>rw[aU,a9] at t1<;>simp only[bne,beq_self_eq_true,Bool.not_true,Bool.not_false,show (false == true)=false from rfl,show (true == false)=false from rfl] at t1
     · skip
       refine al [0,1,2,3,4,5,6,7,8,9,20,30] fun F=>?_
       simp only[ak]
       intro f0 f1 f2 f3 f4 f5 f6 f7 f8 f9 f20 f30
       simp[a8] at f0 f1 f2 f3 f4 f5 f6 f7 f8 f9 f20 f30
       repeat' (first
        | refine ax ?_
        | ((fail_if_success (refine aQ ?_));(fail_if_success (refine aR ?_));refine aL ?_)
        | ((first|(refine az aM ?_;simp(disch:=omega) [aU,a9,bB,t1,t2,f0,f1,f2,f3,f4,f5,f6,f7,f8,f9,f20,f30];(try(refine⟨by first|decide|rfl,?_⟩)))|(refine aK ?_;simp(disch:=omega) [aU,a9,bB,t1,t2,f0,f1,f2,f3,f4,f5,f6,f7,f8,f9,f20,f30]));(try(refine al [0,1,2,3,4,5,6,7,8,9,20,30] ?_;intro F;simp only[ak];intro U ab aa af ad ah ag ar ao aA bO cU;simp(disch:=omega) [aU,a9,bB,t1,t2,f0,f1,f2,f3,f4,f5,f6,f7,f8,f9,f20,f30] at U ab aa af ad ah ag ar ao aA bO cU;clear f0 f1 f2 f3 f4 f5 f6 f7 f8 f9 f20 f30;have f0:=U;have f1:=ab;have f2:=aa;have f3:=af;have f4:=ad;have f5:=ah;have f6:=ag;have f7:=ar;have f8:=ao;have f9:=aA;have f20:=bO;have f30:=cU;clear U ab aa af ad ah ag ar ao aA bO cU)))
        | (refine aJ _ (by simp(disch:=omega) [aU,a9,bB,t1,t2,f0,f1,f2,f3,f4,f5,f6,f7,f8,f9,f20,f30];rfl) (fun I=>?_) (fun I=>?_)<;>first|(exfalso;simp(disch:=omega) [aU,a9,bB,t1,t2] at I;done)|(exfalso;simp at I;omega)|(simp at I))
        | ((first|refine aH ?_|refine aN ?_);simp(disch:=omega) [aU,a9,bB,t1,t2,f0,f1,f2,f3,f4,f5,f6,f7,f8,f9,f20,f30]))
     · skip
       refine al [0,1,2,3,4,5,6,7,8,9,20,30] fun F=>?_
       simp only[ak]
       intro f0 f1 f2 f3 f4 f5 f6 f7 f8 f9 f20 f30
       simp[a8] at f0 f1 f2 f3 f4 f5 f6 f7 f8 f9 f20 f30
       repeat' (first
        | refine ax ?_
        | ((fail_if_success (refine aQ ?_));(fail_if_success (refine aR ?_));refine aL ?_)
        | ((first|(refine az aM ?_;simp(disch:=omega) [aU,a9,bB,t1,t2,f0,f1,f2,f3,f4,f5,f6,f7,f8,f9,f20,f30];(try(refine⟨by first|decide|rfl,?_⟩)))|(refine aK ?_;simp(disch:=omega) [aU,a9,bB,t1,t2,f0,f1,f2,f3,f4,f5,f6,f7,f8,f9,f20,f30]));(try(refine al [0,1,2,3,4,5,6,7,8,9,20,30] ?_;intro F;simp only[ak];intro U ab aa af ad ah ag ar ao aA bO cU;simp(disch:=omega) [aU,a9,bB,t1,t2,f0,f1,f2,f3,f4,f5,f6,f7,f8,f9,f20,f30] at U ab aa af ad ah ag ar ao aA bO cU;clear f0 f1 f2 f3 f4 f5 f6 f7 f8 f9 f20 f30;have f0:=U;have f1:=ab;have f2:=aa;have f3:=af;have f4:=ad;have f5:=ah;have f6:=ag;have f7:=ar;have f8:=ao;have f9:=aA;have f20:=bO;have f30:=cU;clear U ab aa af ad ah ag ar ao aA bO cU)))
        | (refine aJ _ (by simp(disch:=omega) [aU,a9,bB,t1,t2,f0,f1,f2,f3,f4,f5,f6,f7,f8,f9,f20,f30];rfl) (fun I=>?_) (fun I=>?_)<;>first|(exfalso;simp(disch:=omega) [aU,a9,bB,t1,t2] at I;done)|(exfalso;simp at I;omega)|(simp at I))
        | ((first|refine aH ?_|refine aN ?_);simp(disch:=omega) [aU,a9,bB,t1,t2,f0,f1,f2,f3,f4,f5,f6,f7,f8,f9,f20,f30]))
     · have bM:ai r= []:=g3.2 (aV.resolve_left (by rw[aU];decide))
       simp only[aw,cH,bM,List.map_nil] at bB t2
       refine al [0,1,2,3,4,5,6,7,8,9,20,30] fun F=>?_
       simp only[ak]
       intro f0 f1 f2 f3 f4 f5 f6 f7 f8 f9 f20 f30
       simp[a8] at f0 f1 f2 f3 f4 f5 f6 f7 f8 f9 f20 f30
       repeat' (first
        | refine ax ?_
        | ((fail_if_success (refine aQ ?_));(fail_if_success (refine aR ?_));refine aL ?_)
        | ((first|(refine az aM ?_;simp(disch:=omega) [aU,a9,bB,t1,t2,f0,f1,f2,f3,f4,f5,f6,f7,f8,f9,f20,f30];(try(refine⟨by first|decide|rfl,?_⟩)))|(refine aK ?_;simp(disch:=omega) [aU,a9,bB,t1,t2,f0,f1,f2,f3,f4,f5,f6,f7,f8,f9,f20,f30]));(try(refine al [0,1,2,3,4,5,6,7,8,9,20,30] ?_;intro F;simp only[ak];intro U ab aa af ad ah ag ar ao aA bO cU;simp(disch:=omega) [aU,a9,bB,t1,t2,f0,f1,f2,f3,f4,f5,f6,f7,f8,f9,f20,f30] at U ab aa af ad ah ag ar ao aA bO cU;clear f0 f1 f2 f3 f4 f5 f6 f7 f8 f9 f20 f30;have f0:=U;have f1:=ab;have f2:=aa;have f3:=af;have f4:=ad;have f5:=ah;have f6:=ag;have f7:=ar;have f8:=ao;have f9:=aA;have f20:=bO;have f30:=cU;clear U ab aa af ad ah ag ar ao aA bO cU)))
        | (refine aJ _ (by simp(disch:=omega) [aU,a9,bB,t1,t2,f0,f1,f2,f3,f4,f5,f6,f7,f8,f9,f20,f30];rfl) (fun I=>?_) (fun I=>?_)<;>first|(exfalso;simp(disch:=omega) [aU,a9,bB,t1,t2] at I;done)|(exfalso;simp at I;omega)|(simp at I))
        | ((first|refine aH ?_|refine aN ?_);simp(disch:=omega) [aU,a9,bB,t1,t2,f0,f1,f2,f3,f4,f5,f6,f7,f8,f9,f20,f30]))
     · have bM:ai r= []:=g3.2 (aV.resolve_left (by rw[aU];decide))
       simp only[aw,cH,bM,List.map_nil] at bB t2
       refine al [0,1,2,3,4,5,6,7,8,9,20,30] fun F=>?_
       simp only[ak]
       intro f0 f1 f2 f3 f4 f5 f6 f7 f8 f9 f20 f30
       simp[a8] at f0 f1 f2 f3 f4 f5 f6 f7 f8 f9 f20 f30
       repeat' (first
        | refine ax ?_
        | ((fail_if_success (refine aQ ?_));(fail_if_success (refine aR ?_));refine aL ?_)
        | ((first|(refine az aM ?_;simp(disch:=omega) [aU,a9,bB,t1,t2,f0,f1,f2,f3,f4,f5,f6,f7,f8,f9,f20,f30];(try(refine⟨by first|decide|rfl,?_⟩)))|(refine aK ?_;simp(disch:=omega) [aU,a9,bB,t1,t2,f0,f1,f2,f3,f4,f5,f6,f7,f8,f9,f20,f30]));(try(refine al [0,1,2,3,4,5,6,7,8,9,20,30] ?_;intro F;simp only[ak];intro U ab aa af ad ah ag ar ao aA bO cU;simp(disch:=omega) [aU,a9,bB,t1,t2,f0,f1,f2,f3,f4,f5,f6,f7,f8,f9,f20,f30] at U ab aa af ad ah ag ar ao aA bO cU;clear f0 f1 f2 f3 f4 f5 f6 f7 f8 f9 f20 f30;have f0:=U;have f1:=ab;have f2:=aa;have f3:=af;have f4:=ad;have f5:=ah;have f6:=ag;have f7:=ar;have f8:=ao;have f9:=aA;have f20:=bO;have f30:=cU;clear U ab aa af ad ah ag ar ao aA bO cU)))
        | (refine aJ _ (by simp(disch:=omega) [aU,a9,bB,t1,t2,f0,f1,f2,f3,f4,f5,f6,f7,f8,f9,f20,f30];rfl) (fun I=>?_) (fun I=>?_)<;>first|(exfalso;simp(disch:=omega) [aU,a9,bB,t1,t2] at I;done)|(exfalso;simp at I;omega)|(simp at I))
        | ((first|refine aH ?_|refine aN ?_);simp(disch:=omega) [aU,a9,bB,t1,t2,f0,f1,f2,f3,f4,f5,f6,f7,f8,f9,f20,f30]))
   · have aU:b' a=true:=by cases h:b' a<;>simp[h] at aV|-
     have rb:a.natAbs%b.natAbs≠0:=fun h=>aV (.inr h)
     obtain⟨d1,d2⟩:=JS a b e9 aU rb
     have e6:=ny (a:=a.natAbs/b.natAbs) (b:=1) (e:=false) (e':=false) (by omega) (by rw[lX];decide)
     have cB:=yR (a:=b.natAbs) (b:=a.natAbs%b.natAbs) (e:=false) (e':=false) (by omega) (by omega)
     have Uu:=Nat.mod_lt a.natAbs (show 0<b.natAbs by omega)
     rw[if_neg (by omega)] at cB
     have a6:=k5 (a.natAbs/b.natAbs) 1
     have ck:(ai 1).length=1:=by rw[lX];rfl
     have hb:=f_ (Nat.sub_le b.natAbs (a.natAbs%b.natAbs))
     have t1:=sU (b:=b' a != b' b) (n:=a.natAbs/b.natAbs+1) (by omega)
     have t2:=sU (b:=false) (n:=b.natAbs - a.natAbs%b.natAbs) (by omega)
     rw[d1] at t1
     rw[d2] at t2
     have oJ:=Um () trivial (args:=[]) rfl
     clear d1 d2
     have aC:¬ai (a.natAbs%b.natAbs)= []:=fun h=>rb (g3.1 h)
     have eC:0<(ai (a.natAbs%b.natAbs)).length:=lk.2 rb
     generalize a/b=Q at*
     generalize a%b=R at*
     generalize a.natAbs/b.natAbs=q at*
     generalize a.natAbs%b.natAbs=r at*
     rw[aU] at t1
     cases a9:b' b<;>rw[a9] at t1<;>simp only[bne,beq_self_eq_true,Bool.not_true,Bool.not_false,show (false == true)=false from rfl,show (true == false)=false from rfl] at t1
     · skip
       refine al [0,1,2,3,4,5,6,7,8,9,20,30] fun F=>?_
       simp only[ak]
       intro f0 f1 f2 f3 f4 f5 f6 f7 f8 f9 f20 f30
       simp[a8] at f0 f1 f2 f3 f4 f5 f6 f7 f8 f9 f20 f30
       repeat' (first
        | refine ax ?_
        | ((fail_if_success (refine aQ ?_));(fail_if_success (refine aR ?_));refine aL ?_)
        | ((first|(refine az aM ?_;simp(disch:=omega) [aU,a9,bB,aC,eC,oJ,e6,cB,t1,t2,f0,f1,f2,f3,f4,f5,f6,f7,f8,f9,f20,f30];(try(refine⟨by first|decide|rfl,?_⟩)))|(refine aK ?_;simp(disch:=omega) [aU,a9,bB,aC,eC,oJ,e6,cB,t1,t2,f0,f1,f2,f3,f4,f5,f6,f7,f8,f9,f20,f30]));(try(refine al [0,1,2,3,4,5,6,7,8,9,20,30] ?_;intro F;simp only[ak];intro U ab aa af ad ah ag ar ao aA bO cU;simp(disch:=omega) [aU,a9,bB,aC,eC,oJ,e6,cB,t1,t2,f0,f1,f2,f3,f4,f5,f6,f7,f8,f9,f20,f30] at U ab aa af ad ah ag ar ao aA bO cU;clear f0 f1 f2 f3 f4 f5 f6 f7 f8 f9 f20 f30;have f0:=U;have f1:=ab;have f2:=aa;have f3:=af;have f4:=ad;have f5:=ah;have f6:=ag;have f7:=ar;have f8:=ao;have f9:=aA;have f20:=bO;have f30:=cU;clear U ab aa af ad ah ag ar ao aA bO cU)))
        | (refine aJ _ (by simp(disch:=omega) [aU,a9,bB,aC,eC,oJ,e6,cB,t1,t2,f0,f1,f2,f3,f4,f5,f6,f7,f8,f9,f20,f30];rfl) (fun I=>?_) (fun I=>?_)<;>first|(exfalso;simp(disch:=omega) [aU,a9,bB,aC,eC,oJ,e6,cB,t1,t2] at I;done)|(exfalso;simp at I;omega)|(simp at I))
        | ((first|refine aH ?_|refine aN ?_);simp(disch:=omega) [aU,a9,bB,aC,eC,oJ,e6,cB,t1,t2,f0,f1,f2,f3,f4,f5,f6,f7,f8,f9,f20,f30]))
     · skip
       refine al [0,1,2,3,4,5,6,7,8,9,20,30] fun F=>?_
       simp only[ak]
       intro f0 f1 f2 f3 f4 f5 f6 f7 f8 f9 f20 f30
       simp[a8] at f0 f1 f2 f3 f4 f5 f6 f7 f8 f9 f20 f30
       repeat' (first
        | refine ax ?_
        | ((fail_if_success (refine aQ ?_));(fail_if_success (refine aR ?_));refine aL ?_)
        | ((first|(refine az aM ?_;simp(disch:=omega) [aU,a9,bB,aC,eC,oJ,e6,cB,t1,t2,f0,f1,f2,f3,f4,f5,f6,f7,f8,f9,f20,f30];(try(refine⟨by first|decide|rfl,?_⟩)))|(refine aK ?_;simp(disch:=omega) [aU,a9,bB,aC,eC,oJ,e6,cB,t1,t2,f0,f1,f2,f3,f4,f5,f6,f7,f8,f9,f20,f30]));(try(refine al [0,1,2,3,4,5,6,7,8,9,20,30] ?_;intro F;simp only[ak];intro U ab aa af ad ah ag ar ao aA bO cU;simp(disch:=omega) [aU,a9,bB,aC,eC,oJ,e6,cB,t1,t2,f0,f1,f2,f3,f4,f5,f6,f7,f8,f9,f20,f30] at U ab aa af ad ah ag ar ao aA bO cU;clear f0 f1 f2 f3 f4 f5 f6 f7 f8 f9 f20 f30;have f0:=U;have f1:=ab;have f2:=aa;have f3:=af;have f4:=ad;have f5:=ah;have f6:=ag;have f7:=ar;have f8:=ao;have f9:=aA;have f20:=bO;have f30:=cU;clear U ab aa af ad ah ag ar ao aA bO cU)))
        | (refine aJ _ (by simp(disch:=omega) [aU,a9,bB,aC,eC,oJ,e6,cB,t1,t2,f0,f1,f2,f3,f4,f5,f6,f7,f8,f9,f20,f30];rfl) (fun I=>?_) (fun I=>?_)<;>first|(exfalso;simp(disch:=omega) [aU,a9,bB,aC,eC,oJ,e6,cB,t1,t2] at I;done)|(exfalso;simp at I;omega)|(simp at I))
        | ((first|refine aH ?_|refine aN ?_);simp(disch:=omega) [aU,a9,bB,aC,eC,oJ,e6,cB,t1,t2,f0,f1,f2,f3,f4,f5,f6,f7,f8,f9,f20,f30]))
noncomputable def CT:FuncId->Option (List J->Option J):=da [(76,vh),(77,ox)]
theorem Uv:∀f T,CT f=some T->bl Tryz.prog G f T:=dc (by simp only[List.forall_mem_cons];exact ⟨Kg,w1,fun _ h=>absurd h (by simp)⟩)
theorem Uw:CT 76=some vh:=rfl
theorem Ux:CT 77=some ox:=rfl
attribute [local simp] Uw Ux
theorem Kh {z:Int} (h:z≠0):(gV z == Z 0)=false/\(gV z != Z 0)=true:=by
 simp only[gV,Z]
 rw[if_neg h]
 split<;>exact ⟨rfl,rfl⟩
noncomputable def zw:List J->Option J:=cl (fun z:Int × Int=>bS z.1<=1000000/\bS z.2<=1000000) (fun z=>[a7 z.1,a7 z.2]) (fun z=>if z.2=0\/z.1%z.2≠0 then .cb [a7 0,.bool false] else .cb [a7 (z.1/z.2),.bool true])
theorem Ki (z:Int × Int) (h:bS z.1<=1000000/\bS z.2<=1000000) {args:List J} (he:args.map J.loose= [a7 z.1,a7 z.2]):zw args=some (if z.2=0\/z.1%z.2≠0 then .cb [a7 0,.bool false] else .cb [a7 (z.1/z.2),.bool true]):=cI (fun z w h=>by first|(simp only[List.cons.injEq,J.int.injEq,J.bool.injEq,J.sl.injEq,bT,bU,bY,bZ,bX,bG,bL,bV,bI,true_and,and_true] at h;simp[h];done)|(simp only[J.agg.injEq,List.cons.injEq,J.int.injEq,J.bool.injEq,J.sl.injEq,bT,bU,bY,bZ,bX,bG,bL,bV,bI,true_and,and_true] at h;simp[h])) z h he
theorem Uy:bl Tryz.prog G 102 zw:=by
 refine cJ mixed Uv GM fun z aV=>?_
 obtain⟨a,b⟩:=z
 have bB:=Kf (a,b) aV (args:=[a7 a,a7 b]) (by simp)
 have cB:=yY (a%b) trivial (args:=[a7 (a%b)]) (by simp)
 simp only at bB|-
 unfold i102
 have bM:ai 0= []:=eX
 have b7:b' 0=false:=rfl
 by_cases e9:b=0
 · rw[if_pos e9] at bB
   rw[if_pos (.inl e9)]
   simp only[a7,bM,b7,Int.natAbs_zero,aw,cH,List.map_nil] at bB
   refine al [0,1,2,3,4,5,6,7,8,22] fun F=>?_
   simp only[ak]
   intro f0 f1 f2 f3 f4 f5 f6 f7 f8 f22
   simp[a8] at f0 f1 f2 f3 f4 f5 f6 f7 f8 f22
   repeat' (first
    | refine ax ?_
    | ((fail_if_success (refine aQ ?_));(fail_if_success (refine aR ?_));refine aL ?_)
    | ((first|(refine az aM ?_;simp(disch:=omega) [bB,f0,f1,f2,f3,f4,f5,f6,f7,f8,f22];(try(refine⟨by first|decide|rfl,?_⟩)))|(refine aK ?_;simp(disch:=omega) [bB,f0,f1,f2,f3,f4,f5,f6,f7,f8,f22]));(try(refine al [0,1,2,3,4,5,6,7,8,22] ?_;intro F;simp only[ak];intro U ab aa af ad ah ag ar ao cK;simp(disch:=omega) [bB,f0,f1,f2,f3,f4,f5,f6,f7,f8,f22] at U ab aa af ad ah ag ar ao cK;clear f0 f1 f2 f3 f4 f5 f6 f7 f8 f22;have f0:=U;have f1:=ab;have f2:=aa;have f3:=af;have f4:=ad;have f5:=ah;have f6:=ag;have f7:=ar;have f8:=ao;have f22:=cK;clear U ab aa af ad ah ag ar ao cK)))
    | (refine aJ _ (by simp(disch:=omega) [bB,f0,f1,f2,f3,f4,f5,f6,f7,f8,f22];rfl) (fun I=>?_) (fun I=>?_)<;>first|(exfalso;simp(disch:=omega) [bB] at I;done)|(exfalso;simp at I;omega)|(simp at I))
    | ((first|refine aH ?_|refine aN ?_);simp(disch:=omega) [bB,f0,f1,f2,f3,f4,f5,f6,f7,f8,f22,bM,b7]))
 · rw[if_neg e9] at bB
   by_cases bf:a%b=0
   · rw[if_neg (by simp[e9,bf])]
     have kZ:gV (a%b)=Z 0:=by rw[bf];rfl
     rw[kZ] at cB
     clear bf kZ
     generalize a/b=q at*
     generalize a%b=r at*
     refine al [0,1,2,3,4,5,6,7,8,22] fun F=>?_
     simp only[ak]
     intro f0 f1 f2 f3 f4 f5 f6 f7 f8 f22
     simp[a8] at f0 f1 f2 f3 f4 f5 f6 f7 f8 f22
     repeat' (first
      | refine ax ?_
      | ((fail_if_success (refine aQ ?_));(fail_if_success (refine aR ?_));refine aL ?_)
      | ((first|(refine az aM ?_;simp(disch:=omega) [bB,cB,f0,f1,f2,f3,f4,f5,f6,f7,f8,f22];(try(refine⟨by first|decide|rfl,?_⟩)))|(refine aK ?_;simp(disch:=omega) [bB,cB,f0,f1,f2,f3,f4,f5,f6,f7,f8,f22]));(try(refine al [0,1,2,3,4,5,6,7,8,22] ?_;intro F;simp only[ak];intro U ab aa af ad ah ag ar ao cK;simp(disch:=omega) [bB,cB,f0,f1,f2,f3,f4,f5,f6,f7,f8,f22] at U ab aa af ad ah ag ar ao cK;clear f0 f1 f2 f3 f4 f5 f6 f7 f8 f22;have f0:=U;have f1:=ab;have f2:=aa;have f3:=af;have f4:=ad;have f5:=ah;have f6:=ag;have f7:=ar;have f8:=ao;have f22:=cK;clear U ab aa af ad ah ag ar ao cK)))
      | (refine aJ _ (by simp(disch:=omega) [bB,cB,f0,f1,f2,f3,f4,f5,f6,f7,f8,f22];rfl) (fun I=>?_) (fun I=>?_)<;>first|(exfalso;simp(disch:=omega) [bB,cB] at I;done)|(exfalso;simp at I;omega)|(simp at I))
      | ((first|refine aH ?_|refine aN ?_);simp(disch:=omega) [bB,cB,f0,f1,f2,f3,f4,f5,f6,f7,f8,f22]))
   · rw[if_pos (.inr bf)]
     obtain⟨s1,s2⟩:=Kh bf
     generalize a/b=q at*
     generalize gV (a%b)=rH at*
     generalize a%b=r at*
     refine al [0,1,2,3,4,5,6,7,8,22] fun F=>?_
     simp only[ak]
     intro f0 f1 f2 f3 f4 f5 f6 f7 f8 f22
     simp[a8] at f0 f1 f2 f3 f4 f5 f6 f7 f8 f22
     repeat' (first
      | refine ax ?_
      | ((fail_if_success (refine aQ ?_));(fail_if_success (refine aR ?_));refine aL ?_)
      | ((first|(refine az aM ?_;simp(disch:=omega) [bB,cB,s1,s2,f0,f1,f2,f3,f4,f5,f6,f7,f8,f22];(try(refine⟨by first|decide|rfl,?_⟩)))|(refine aK ?_;simp(disch:=omega) [bB,cB,s1,s2,f0,f1,f2,f3,f4,f5,f6,f7,f8,f22]));(try(refine al [0,1,2,3,4,5,6,7,8,22] ?_;intro F;simp only[ak];intro U ab aa af ad ah ag ar ao cK;simp(disch:=omega) [bB,cB,s1,s2,f0,f1,f2,f3,f4,f5,f6,f7,f8,f22] at U ab aa af ad ah ag ar ao cK;clear f0 f1 f2 f3 f4 f5 f6 f7 f8 f22;have f0:=U;have f1:=ab;have f2:=aa;have f3:=af;have f4:=ad;have f5:=ah;have f6:=ag;have f7:=ar;have f8:=ao;have f22:=cK;clear U ab aa af ad ah ag ar ao cK)))
      | (refine aJ _ (by simp(disch:=omega) [bB,cB,s1,s2,f0,f1,f2,f3,f4,f5,f6,f7,f8,f22];rfl) (fun I=>?_) (fun I=>?_)<;>first|(exfalso;simp(disch:=omega) [bB,cB,s1,s2] at I;done)|(exfalso;simp at I;omega)|(simp at I))
      | ((first|refine aH ?_|refine aN ?_);simp(disch:=omega) [bB,cB,s1,s2,f0,f1,f2,f3,f4,f5,f6,f7,f8,f22,bM,b7]))
end
end
end Go.Proofs.YtcikknajimdjoaaGreatDoor
