/- What the claim needs of the walks, put together by a program (shake.py). -/
import Derived.Test.YtcikknajimdjoaaGreatDoorFpI
set_option maxRecDepth 100000
set_option linter.unusedSimpArgs false
set_option linter.unusedVariables false
set_option linter.unusedSectionVars false
namespace Go.Proofs.YtcikknajimdjoaaGreatDoor
section
set_option maxHeartbeats 8000000
open Go Go.Eng Go.RowKit
attribute [local simp] bH.m bH.o bH.n bH.g hy fh dG dr dJ evalOp.eq_1 evalOp.eq_2 evalOp.eq_3 evalOp.eq_4 evalOp.eq_5 evalOp.eq_6 evalOp.eq_7 evalOp.eq_8 evalOp.eq_9 evalOp.eq_10 evalOp.eq_11 evalOp.eq_12 evalOp.eq_13 evalOp.eq_14 evalOp.eq_15 evalOp.eq_16 evalOp.eq_17 evalOp.eq_18 evalOp.eq_19 evalOp.eq_20 evalOp.eq_21 evalOp.eq_22 evalOp.eq_23 evalOp.eq_24 evalOp.eq_25 evalOp.eq_27 evalOp.eq_28 evalOp.eq_29 kl bn.cu dq aG aF.new a8 J.cells J.dp J.e7 J.ft il iq im ir iv iu jK jL jM gY gZ cut partOf bound elems jO jP jQ jR jS jT jU jV jW jX jY jZ h1 j0 j1 j2 j3 j4 j5 j6 j7 j8 j9 j_ j' ka kb kc kd ke kf kg kh ki kj kk ff e8 e1 gi iw hA aF.close aF.set h3 km kn ko jN hB gD gq gJ gr hX gu gK hY hZ h0 gf gg gh gd ix bI hU iy hV iz iA fY iB fw iC iD iE gT jJ iF iG iH iI iJ iK iL iM iN iO iP iQ iR iS iT iU iV iW iX hf iY iZ i_ i' ja jb jc jd je jf jg jh ji jj jk
attribute [local simp high] jG jH jI jl jm jn jo jq jr js jt ju jv jw jx jy jz jA jB jC jD jE jF
attribute [local simp] aS List.getElem?_cons_zero List.getElem?_cons_succ fa eh gl Nat.mod_eq_of_lt kH kI kJ kK gL kL kM kN
section
attribute [local irreducible] cQ
attribute [local simp] ek eL du
noncomputable def Ky:FuncId->Option (List J->Option J):=da [(62,C5)]
theorem VH:∀f T,Ky f=some T->bl Tryz.prog G f T:=dc (by simp only[List.forall_mem_cons];exact ⟨Vd,fun _ h=>absurd h (by simp)⟩)
theorem VI:Ky 62=some C5:=rfl
attribute [local simp] VI
noncomputable def pZ:List J->Option J:=cl (fun z:Nat=>True) (fun z=>[aw z]) (fun z=>a7 (z:Int))
theorem rR (z:Nat) (h:True) {args:List J} (he:args.map J.loose= [aw z]):pZ args=some (a7 (z:Int)):=cI (fun z w h=>by first|(simp only[List.cons.injEq,J.int.injEq,J.bool.injEq,J.sl.injEq,bT,bU,bY,bZ,bX,bG,bL,bV,bI,true_and,and_true] at h;simp[h];done)|(simp only[J.agg.injEq,List.cons.injEq,J.int.injEq,J.bool.injEq,J.sl.injEq,bT,bU,bY,bZ,bX,bG,bL,bV,bI,true_and,and_true] at h;simp[h])) z h he
theorem zE:bl Tryz.prog G 71 pZ:=by
 refine cJ mixed VH Gp fun z aV=>?_
 unfold i71
 refine al [0,2] fun F=>?_
 simp only[ak]
 intro f0 f2
 simp[a8] at f0 f2
 repeat' (first
  | refine ax ?_
  | ((fail_if_success (refine aQ ?_));(fail_if_success (refine aR ?_));refine aL ?_)
  | ((first|(refine az aM ?_;simp(disch:=omega) [f0,f2];(try(refine⟨by first|decide|rfl,?_⟩)))|(refine aK ?_;simp(disch:=omega) [f0,f2]));(try(refine al [0,2] ?_;intro F;simp only[ak];intro U aa;simp(disch:=omega) [f0,f2] at U aa;clear f0 f2;have f0:=U;have f2:=aa;clear U aa)))
  | (refine aJ _ (by simp(disch:=omega) [f0,f2];rfl) (fun I=>?_) (fun I=>?_)<;>first|(exfalso;simp(disch:=omega) at I;done)|(exfalso;simp at I;omega)|(simp at I))
  | ((first|refine aH ?_|refine aN ?_);simp(disch:=omega) [f0,f2,Kl,Km]))
noncomputable def xo:FuncId->Option (List J->Option J):=da [(71,pZ),(108,yM),(109,zD),(91,rN)]
theorem VJ:∀f T,xo f=some T->bl Tryz.prog G f T:=dc (by simp only[List.forall_mem_cons];exact ⟨zE,Qu,Vz,C6,fun _ h=>absurd h (by simp)⟩)
theorem VK:xo 71=some pZ:=rfl
theorem VL:xo 108=some yM:=rfl
theorem VM:xo 109=some zD:=rfl
theorem VN:xo 91=some rN:=rfl
attribute [local simp] VK VL VM VN
theorem VO {n d:Int} (bw:d≠0):(Rat.divInt n d).num=(if d<0 then -(n/(Nat.gcd n.natAbs d.natAbs:Nat)) else n/(Nat.gcd n.natAbs d.natAbs:Nat))/\
 (Rat.divInt n d).den=((d.natAbs:Int)/(Nat.gcd n.natAbs d.natAbs:Nat)).natAbs:=by
 obtain⟨bz,b4⟩:=CU (n:=n) bw
 have ae:((Nat.gcd n.natAbs d.natAbs:Nat):Int)∣d:=Int.ofNat_dvd_left.2 (Nat.gcd_dvd_right _ _)
 have aS:0<Nat.gcd n.natAbs d.natAbs:=Nat.gcd_pos_of_pos_right _ (by omega)
 generalize Nat.gcd n.natAbs d.natAbs=g at*
 obtain⟨k,aI⟩:=ae
 have qJ:(g:Int)≠0:=by omega
 have aj:d/(g:Int)=k:=by rw[aI,Int.mul_ediv_cancel_left _ qJ]
 have aq:((d.natAbs:Nat):Int)/(g:Int)=k.natAbs:=by
  rw[aI,Int.natAbs_mul,Int.natAbs_natCast,Int.natCast_mul,Int.mul_ediv_cancel_left _ qJ]
 have aW:d<0↔k<0:=by
  rw[aI]
  constructor
  · intro h
    refine Int.lt_of_not_ge fun h2=>?_
    have:=Int.mul_nonneg (show 0<=(g:Int) by omega) h2
    omega
  · exact fun h=>Int.mul_neg_of_pos_of_neg (by omega) h
 rw[aj] at bz b4
 rw[aq,Int.natAbs_natCast,bz,b4]
 refine⟨?_,rfl⟩
 by_cases h:k<0
 · rw[if_pos h,if_pos (aW.2 h)]
 · rw[if_neg h,if_neg (fun h2=>h (aW.1 h2))]
noncomputable def vt:List J->Option J:=cl (fun z:Int × Int=>bS z.1<=1000000/\bS z.2<=1000000) (fun z=>[a7 z.1,a7 z.2]) (fun z=>if z.2=0 then .cb [vn,bp 3] else .cb [qr (Rat.divInt z.1 z.2),bp 0])
theorem VP (z:Int × Int) (h:bS z.1<=1000000/\bS z.2<=1000000) {args:List J} (he:args.map J.loose= [a7 z.1,a7 z.2]):vt args=some (if z.2=0 then .cb [vn,bp 3] else .cb [qr (Rat.divInt z.1 z.2),bp 0]):=cI (fun z w h=>by first|(simp only[List.cons.injEq,J.int.injEq,J.bool.injEq,J.sl.injEq,bT,bU,bY,bZ,bX,bG,bL,bV,bI,true_and,and_true] at h;simp[h];done)|(simp only[J.agg.injEq,List.cons.injEq,J.int.injEq,J.bool.injEq,J.sl.injEq,bT,bU,bY,bZ,bX,bG,bL,bV,bI,true_and,and_true] at h;simp[h])) z h he
theorem Kz:bl Tryz.prog G 61 vt:=by
 refine cJ mixed VJ Gk fun z aV=>?_
 obtain⟨n,d⟩:=z
 obtain⟨aC,bw⟩:=aV
 simp only at aC bw|-
 unfold i61
 by_cases n6:d=0
 · rw[if_pos n6]
   have bM:ai d.natAbs= []:=by rw[n6];exact eX
   clear n6
   refine al [0,1,2,3,4,5,6,7,9,14,37] fun F=>?_
   simp only[ak]
   intro f0 f1 f2 f3 f4 f5 f6 f7 f9 f14 f37
   simp[a8] at f0 f1 f2 f3 f4 f5 f6 f7 f9 f14 f37
   repeat' (first
    | refine ax ?_
    | ((fail_if_success (refine aQ ?_));(fail_if_success (refine aR ?_));refine aL ?_)
    | ((first|(refine az aM ?_;simp(disch:=omega) [bM,f0,f1,f2,f3,f4,f5,f6,f7,f9,f14,f37];(try(refine⟨by first|decide|rfl,?_⟩)))|(refine aK ?_;simp(disch:=omega) [bM,f0,f1,f2,f3,f4,f5,f6,f7,f9,f14,f37]));(try(refine al [0,1,2,3,4,5,6,7,9,14,37] ?_;intro F;simp only[ak];intro U ab aa af ad ah ag ar aA bs gy;simp(disch:=omega) [bM,f0,f1,f2,f3,f4,f5,f6,f7,f9,f14,f37] at U ab aa af ad ah ag ar aA bs gy;clear f0 f1 f2 f3 f4 f5 f6 f7 f9 f14 f37;have f0:=U;have f1:=ab;have f2:=aa;have f3:=af;have f4:=ad;have f5:=ah;have f6:=ag;have f7:=ar;have f9:=aA;have f14:=bs;have f37:=gy;clear U ab aa af ad ah ag ar aA bs gy)))
    | (refine aJ _ (by simp(disch:=omega) [bM,f0,f1,f2,f3,f4,f5,f6,f7,f9,f14,f37];rfl) (fun I=>?_) (fun I=>?_)<;>first|(exfalso;simp(disch:=omega) [bM] at I;done)|(exfalso;simp at I;omega)|(simp at I))
    | ((first|refine aH ?_|refine aN ?_);simp(disch:=omega) [bM,f0,f1,f2,f3,f4,f5,f6,f7,f9,f14,f37]))
 · rw[if_neg n6]
   have oM:¬ai d.natAbs= []:=fun h=>n6 (by have:=g3.1 h;omega)
   have oN:0<(ai d.natAbs).length:=lk.2 (by omega)
   obtain⟨bz,b4⟩:=VO (n:=n) n6
   have eo:=Qr (a:=n.natAbs) (b:=d.natAbs) (e:=false) (e':=false) aC bw
   have ae:((Nat.gcd n.natAbs d.natAbs:Nat):Int)∣(d.natAbs:Int):=Int.ofNat_dvd_left.2 (Nat.gcd_dvd_right _ _)
   have h2:((Nat.gcd n.natAbs d.natAbs:Nat):Int)∣n:=Int.ofNat_dvd_left.2 (Nat.gcd_dvd_left _ _)
   have aS:0<Nat.gcd n.natAbs d.natAbs:=Nat.gcd_pos_of_pos_right _ (by omega)
   have oy:(ai (Nat.gcd n.natAbs d.natAbs)).length<=1000000:=Nat.le_trans (f_ (Nat.le_of_dvd (by omega) (Nat.gcd_dvd_right _ _))) bw
   have ab:=Kk n (Nat.gcd n.natAbs d.natAbs:Nat)
   generalize Nat.gcd n.natAbs d.natAbs=g at*
   have hG:=rR g trivial (args:=[aw g]) (by simp)
   have oO:=rR d.natAbs trivial (args:=[aw d.natAbs]) (by simp)
   have t1:=Ku (n,(g:Int)) ⟨aC,by rw[pY];exact oy⟩ (args:=[a7 n,a7 (g:Int)]) (by simp)
   have t2:=Ku ((d.natAbs:Int),(g:Int)) ⟨by rw[pY];exact bw,by rw[pY];exact oy⟩ (args:=[a7 (d.natAbs:Int),a7 (g:Int)]) (by simp)
   simp only at t1 t2
   rw[if_neg (by rw[Int.emod_eq_zero_of_dvd h2];omega)] at t1
   rw[if_neg (by rw[Int.emod_eq_zero_of_dvd ae];omega)] at t2
   simp only[qr,bz,b4]
   have t3:=Ve (n/(g:Int)) (by omega) (args:=[a7 (n/(g:Int))]) (by simp)
   generalize n/(g:Int)=x at*
   generalize (d.natAbs:Int)/(g:Int)=y at*
   generalize aas:(d.natAbs:Int)=aat at*
   by_cases bj:d<0
   · have g9:b' d=true:=HC.2 bj
     simp only[if_pos bj]
     generalize -x=w at*
     generalize (g:Int)=CY at*
     refine al [0,1,2,3,4,5,6,7,9,14,37] fun F=>?_
     simp only[ak]
     intro f0 f1 f2 f3 f4 f5 f6 f7 f9 f14 f37
     simp[a8] at f0 f1 f2 f3 f4 f5 f6 f7 f9 f14 f37
     repeat' (first
      | refine ax ?_
      | ((fail_if_success (refine aQ ?_));(fail_if_success (refine aR ?_));refine aL ?_)
      | ((first|(refine az aM ?_;simp(disch:=omega) [oM,oN,eo,hG,oO,t1,t2,t3,g9,f0,f1,f2,f3,f4,f5,f6,f7,f9,f14,f37];(try(refine⟨by first|decide|rfl,?_⟩)))|(refine aK ?_;simp(disch:=omega) [oM,oN,eo,hG,oO,t1,t2,t3,g9,f0,f1,f2,f3,f4,f5,f6,f7,f9,f14,f37]));(try(refine al [0,1,2,3,4,5,6,7,9,14,37] ?_;intro F;simp only[ak];intro U ab aa af ad ah ag ar aA bs gy;simp(disch:=omega) [oM,oN,eo,hG,oO,t1,t2,t3,g9,f0,f1,f2,f3,f4,f5,f6,f7,f9,f14,f37] at U ab aa af ad ah ag ar aA bs gy;clear f0 f1 f2 f3 f4 f5 f6 f7 f9 f14 f37;have f0:=U;have f1:=ab;have f2:=aa;have f3:=af;have f4:=ad;have f5:=ah;have f6:=ag;have f7:=ar;have f9:=aA;have f14:=bs;have f37:=gy;clear U ab aa af ad ah ag ar aA bs gy)))
      | (refine aJ _ (by simp(disch:=omega) [oM,oN,eo,hG,oO,t1,t2,t3,g9,f0,f1,f2,f3,f4,f5,f6,f7,f9,f14,f37];rfl) (fun I=>?_) (fun I=>?_)<;>first|(exfalso;simp(disch:=omega) [oM,oN,eo,hG,oO,t1,t2,t3,g9] at I;done)|(exfalso;simp at I;omega)|(simp at I))
      | ((first|refine aH ?_|refine aN ?_);simp(disch:=omega) [oM,oN,eo,hG,oO,t1,t2,t3,g9,f0,f1,f2,f3,f4,f5,f6,f7,f9,f14,f37]))
   · have g9:b' d=false:=HD.2 (by omega)
     simp only[if_neg bj]
     generalize (g:Int)=CY at*
     refine al [0,1,2,3,4,5,6,7,9,14,37] fun F=>?_
     simp only[ak]
     intro f0 f1 f2 f3 f4 f5 f6 f7 f9 f14 f37
     simp[a8] at f0 f1 f2 f3 f4 f5 f6 f7 f9 f14 f37
     repeat' (first
      | refine ax ?_
      | ((fail_if_success (refine aQ ?_));(fail_if_success (refine aR ?_));refine aL ?_)
      | ((first|(refine az aM ?_;simp(disch:=omega) [oM,oN,eo,hG,oO,t1,t2,t3,g9,f0,f1,f2,f3,f4,f5,f6,f7,f9,f14,f37];(try(refine⟨by first|decide|rfl,?_⟩)))|(refine aK ?_;simp(disch:=omega) [oM,oN,eo,hG,oO,t1,t2,t3,g9,f0,f1,f2,f3,f4,f5,f6,f7,f9,f14,f37]));(try(refine al [0,1,2,3,4,5,6,7,9,14,37] ?_;intro F;simp only[ak];intro U ab aa af ad ah ag ar aA bs gy;simp(disch:=omega) [oM,oN,eo,hG,oO,t1,t2,t3,g9,f0,f1,f2,f3,f4,f5,f6,f7,f9,f14,f37] at U ab aa af ad ah ag ar aA bs gy;clear f0 f1 f2 f3 f4 f5 f6 f7 f9 f14 f37;have f0:=U;have f1:=ab;have f2:=aa;have f3:=af;have f4:=ad;have f5:=ah;have f6:=ag;have f7:=ar;have f9:=aA;have f14:=bs;have f37:=gy;clear U ab aa af ad ah ag ar aA bs gy)))
      | (refine aJ _ (by simp(disch:=omega) [oM,oN,eo,hG,oO,t1,t2,t3,g9,f0,f1,f2,f3,f4,f5,f6,f7,f9,f14,f37];rfl) (fun I=>?_) (fun I=>?_)<;>first|(exfalso;simp(disch:=omega) [oM,oN,eo,hG,oO,t1,t2,t3,g9] at I;done)|(exfalso;simp at I;omega)|(simp at I))
      | ((first|refine aH ?_|refine aN ?_);simp(disch:=omega) [oM,oN,eo,hG,oO,t1,t2,t3,g9,f0,f1,f2,f3,f4,f5,f6,f7,f9,f14,f37]))
noncomputable def p0:FuncId->Option (List J->Option J):=da [(61,vt),(71,pZ),(86,rP),(111,pT),(87,ts),(57,xn),(70,vr),(68,rQ),(48,oq)]
theorem VQ:∀f T,p0 f=some T->bl Tryz.prog G f T:=dc (by simp only[List.forall_mem_cons];exact ⟨Kz,zE,C_,yU,C9,Kv,Kx,Db,wL,fun _ h=>absurd h (by simp)⟩)
theorem VR:p0 61=some vt:=rfl
theorem VS:p0 71=some pZ:=rfl
theorem VT:p0 86=some rP:=rfl
theorem VU:p0 111=some pT:=rfl
theorem VV:p0 87=some ts:=rfl
theorem VW:p0 57=some xn:=rfl
theorem VX:p0 70=some vr:=rfl
theorem VY:p0 68=some rQ:=rfl
theorem VZ:p0 48=some oq:=rfl
attribute [local simp] VR VS VT VU VV VW VX VY VZ
noncomputable def vu:List J->Option J:=cl (fun z:Int × Int=>bS z.1<=1000000/\bS z.2<=1000000/\z.2≠0) (fun z=>[a7 z.1,a7 z.2]) (fun z=>qr (Rat.divInt z.1 z.2))
theorem Dd (z:Int × Int) (h:bS z.1<=1000000/\bS z.2<=1000000/\z.2≠0) {args:List J} (he:args.map J.loose= [a7 z.1,a7 z.2]):vu args=some (qr (Rat.divInt z.1 z.2)):=cI (fun z w h=>by first|(simp only[List.cons.injEq,J.int.injEq,J.bool.injEq,J.sl.injEq,bT,bU,bY,bZ,bX,bG,bL,bV,bI,true_and,and_true] at h;simp[h];done)|(simp only[J.agg.injEq,List.cons.injEq,J.int.injEq,J.bool.injEq,J.sl.injEq,bT,bU,bY,bZ,bX,bG,bL,bV,bI,true_and,and_true] at h;simp[h])) z h he
theorem KA:bl Tryz.prog G 69 vu:=by
 refine cJ mixed VQ Pl fun z aV=>?_
 obtain⟨n,d⟩:=z
 obtain⟨aC,bw,aS⟩:=aV
 simp only at aC bw aS|-
 have t:=VP (n,d) ⟨aC,bw⟩ (args:=[a7 n,a7 d]) (by simp)
 simp only[if_neg aS] at t
 generalize Rat.divInt n d=q at*
 unfold i69
 refine al [0,1,2,3,4,5] fun F=>?_
 simp only[ak]
 intro f0 f1 f2 f3 f4 f5
 simp[a8] at f0 f1 f2 f3 f4 f5
 repeat' (first
  | refine ax ?_
  | ((fail_if_success (refine aQ ?_));(fail_if_success (refine aR ?_));refine aL ?_)
  | ((first|(refine az aM ?_;simp(disch:=omega) [t,f0,f1,f2,f3,f4,f5];(try(refine⟨by first|decide|rfl,?_⟩)))|(refine aK ?_;simp(disch:=omega) [t,f0,f1,f2,f3,f4,f5]));(try(refine al [0,1,2,3,4,5] ?_;intro F;simp only[ak];intro U ab aa af ad ah;simp(disch:=omega) [t,f0,f1,f2,f3,f4,f5] at U ab aa af ad ah;clear f0 f1 f2 f3 f4 f5;have f0:=U;have f1:=ab;have f2:=aa;have f3:=af;have f4:=ad;have f5:=ah;clear U ab aa af ad ah)))
  | (refine aJ _ (by simp(disch:=omega) [t,f0,f1,f2,f3,f4,f5];rfl) (fun I=>?_) (fun I=>?_)<;>first|(exfalso;simp(disch:=omega) [t] at I;done)|(exfalso;simp at I;omega)|(simp at I))
  | ((first|refine aH ?_|refine aN ?_);simp(disch:=omega) [t,f0,f1,f2,f3,f4,f5]))
noncomputable def p1:FuncId->Option (List J->Option J):=da [(69,vu),(71,pZ),(86,rP),(111,pT),(87,ts),(57,xn),(70,vr),(68,rQ),(48,oq)]
theorem KB:∀f T,p1 f=some T->bl Tryz.prog G f T:=dc (by simp only[List.forall_mem_cons];exact ⟨KA,zE,C_,yU,C9,Kv,Kx,Db,wL,fun _ h=>absurd h (by simp)⟩)
theorem V0:p1 69=some vu:=rfl
theorem V1:p1 71=some pZ:=rfl
theorem V2:p1 86=some rP:=rfl
theorem V3:p1 111=some pT:=rfl
theorem V4:p1 87=some ts:=rfl
theorem V5:p1 57=some xn:=rfl
theorem V6:p1 70=some vr:=rfl
theorem V7:p1 68=some rQ:=rfl
theorem V8:p1 48=some oq:=rfl
attribute [local simp] V0 V1 V2 V3 V4 V5 V6 V7 V8
theorem zF {a:Rat} (h:eV a<=100000):bS a.num<=100000/\bS (a.den:Int)<=100000:=by
 simp only[eV,pY] at*;omega
noncomputable def De:List J->Option J:=cl (fun z:Rat × Rat=>eV z.1<=100000/\eV z.2<=100000) (fun z=>[qr z.1,qr z.2]) (fun z=>qr (z.1+z.2))
theorem V9:bl Tryz.prog G 63 De:=by
 refine cJ mixed KB Pg fun z aV=>?_
 obtain⟨a,b⟩:=z
 simp only at aV|-
 obtain⟨ae,h2⟩:=zF aV.1
 obtain⟨aO,a2⟩:=zF aV.2
 have ck:=pc a.num b.den
 have dD:=pc b.num a.den
 have lh:=pc a.den b.den
 have s3:((a.den:Int)*b.den)≠0:=Int.mul_ne_zero (rI a) (rI b)
 have bK:=rR a.den trivial (args:=[aw a.den]) (by simp)
 have cr:=rR b.den trivial (args:=[aw b.den]) (by simp)
 have t1:=xl (a.num,(b.den:Int)) ⟨by simp only;omega,by simp only;omega⟩ (args:=[a7 a.num,a7 (b.den:Int)]) (by simp)
 have t2:=xl (b.num,(a.den:Int)) ⟨by simp only;omega,by simp only;omega⟩ (args:=[a7 b.num,a7 (a.den:Int)]) (by simp)
 have t3:=xl ((a.den:Int),(b.den:Int)) ⟨by simp only;omega,by simp only;omega⟩ (args:=[a7 (a.den:Int),a7 (b.den:Int)]) (by simp)
 have t4:=Rl (a:=a.num*b.den) (b:=b.num*a.den) (e:=false) (e':=false) (by omega) (by omega)
 have cZ:=Rw (a.num*b.den) (b.num*a.den)
 have t5:=Dd (a.num*b.den+b.num*a.den,(a.den:Int)*b.den) ⟨by simp only;omega,by simp only;omega,s3⟩ (args:=[a7 (a.num*b.den+b.num*a.den),a7 ((a.den:Int)*b.den)]) (by simp)
 simp only[Uz] at t1 t2 t3 t4 t5
 generalize a.num*(b.den:Int)=x at*
 generalize b.num*(a.den:Int)=y at*
 generalize (a.den:Int)*(b.den:Int)=w at*
 generalize x+y=aau at*
 generalize a+b=c at*
 generalize (a.den:Int)=c6 at*
 generalize (b.den:Int)=CZ at*
 unfold i63
 refine al [0,1,2,3,4] fun F=>?_
 simp only[ak]
 intro f0 f1 f2 f3 f4
 simp[a8] at f0 f1 f2 f3 f4
 repeat' (first
  | refine ax ?_
  | ((fail_if_success (refine aQ ?_));(fail_if_success (refine aR ?_));refine aL ?_)
  | ((first|(refine az aM ?_;simp(disch:=omega) [bK,cr,t1,t2,t3,t4,t5,f0,f1,f2,f3,f4];(try(refine⟨by first|decide|rfl,?_⟩)))|(refine aK ?_;simp(disch:=omega) [bK,cr,t1,t2,t3,t4,t5,f0,f1,f2,f3,f4]));(try(refine al [0,1,2,3,4] ?_;intro F;simp only[ak];intro U ab aa af ad;simp(disch:=omega) [bK,cr,t1,t2,t3,t4,t5,f0,f1,f2,f3,f4] at U ab aa af ad;clear f0 f1 f2 f3 f4;have f0:=U;have f1:=ab;have f2:=aa;have f3:=af;have f4:=ad;clear U ab aa af ad)))
  | (refine aJ _ (by simp(disch:=omega) [bK,cr,t1,t2,t3,t4,t5,f0,f1,f2,f3,f4];rfl) (fun I=>?_) (fun I=>?_)<;>first|(exfalso;simp(disch:=omega) [bK,cr,t1,t2,t3,t4,t5] at I;done)|(exfalso;simp at I;omega)|(simp at I))
  | ((first|refine aH ?_|refine aN ?_);simp(disch:=omega) [bK,cr,t1,t2,t3,t4,t5,f0,f1,f2,f3,f4]))
theorem V_ (a b:Nat):(cT a b == Z 0)=decide (a=b):=by
 simp only[cT,Z]
 split
 · rw[decide_eq_false (by omega)];rfl
 · split
   · rw[decide_eq_false (by omega)];rfl
   · rw[decide_eq_true (by omega)];rfl
def qL (b:Bool) (l m:List Nat) (n:Nat):Rat:=Rat.divInt (db b (val (l.take n))) (if val (m.take n)=0 then 1 else (val (m.take n):Int))
noncomputable def xp:List J->Option J:=cl (fun z:Bool × List Nat × List Nat × Nat=>Small z.2.1/\Small z.2.2.1/\z.2.2.2<=1000000) (fun z=>[.agg [.bool z.1,cH z.2.1 false,cH z.2.2.1 false],bp z.2.2.2]) (fun z=>qr (qL z.1 z.2.1 z.2.2.1 z.2.2.2))
theorem V' (z:Bool × List Nat × List Nat × Nat) (h:Small z.2.1/\Small z.2.2.1/\z.2.2.2<=1000000) {args:List J} (he:args.map J.loose= [.agg [.bool z.1,cH z.2.1 false,cH z.2.2.1 false],bp z.2.2.2]):xp args=some (qr (qL z.1 z.2.1 z.2.2.1 z.2.2.2)):=cI (fun z w h=>by first|(simp only[List.cons.injEq,J.int.injEq,J.bool.injEq,J.sl.injEq,bT,bU,bY,bZ,bX,bG,bL,bV,bI,true_and,and_true] at h;simp[h];done)|(simp only[J.agg.injEq,List.cons.injEq,J.int.injEq,J.bool.injEq,J.sl.injEq,bT,bU,bY,bZ,bX,bG,bL,bV,bI,true_and,and_true] at h;simp[h])) z h he
theorem zG {l:List Nat} (h:Small l) (n:Nat):(ai (val (l.take n))).length<=n:=c8.2 (Nat.lt_of_lt_of_le (qo (h.take n)) (mS (by rw[List.length_take];omega)))
theorem Wa:bl Tryz.prog G 28 xp:=by
 refine cJ mixed KB O7 fun z aV=>?_
 obtain⟨b,l,m,n⟩:=z
 obtain⟨ae,aO,cf⟩:=aV
 simp only at ae aO cf|-
 have t1:=Kw (m,n) ⟨aO,cf⟩ (args:=[cH m false,bp n]) (by simp)
 have t2:=VG (b,l,n) ⟨ae,cf⟩ (args:=[.agg [.bool b,cH l false],bp n]) (by simp)
 have ab:=zG ae n
 have aa:=zG aO n
 have af:=yX b (val (l.take n))
 simp only at t1 t2
 simp only[qL]
 generalize val (l.take n)=x at*
 generalize val (m.take n)=y at*
 generalize db b x=s at*
 by_cases bj:y=0
 · subst bj
   rw[if_pos rfl]
   have bM:ai 0= []:=eX
   have w:=rR 1 trivial (args:=[.sl [.int .u32 (Z 1)] true]) (by rw[Ke];simp)
   have t3:=Dd (s,1) ⟨by simp only;omega,by show (ai 1).length<=1000000;rw[lX];decide,by simp only;omega⟩ (args:=[a7 s,a7 1]) (by simp)
   simp only at t3
   rw[show ((1:Nat):Int)=1 from rfl] at w
   generalize Rat.divInt s 1=q at*
   generalize (1:Int)=o at*
   unfold i28
   refine al [0,1,2,4,5,12] fun F=>?_
   simp only[ak]
   intro f0 f1 f2 f4 f5 f12
   simp[a8] at f0 f1 f2 f4 f5 f12
   repeat' (first
    | refine ax ?_
    | ((fail_if_success (refine aQ ?_));(fail_if_success (refine aR ?_));refine aL ?_)
    | ((first|(refine az aM ?_;simp(disch:=omega) [bM,t1,t2,w,t3,f0,f1,f2,f4,f5,f12];(try(refine⟨by first|decide|rfl,?_⟩)))|(refine aK ?_;simp(disch:=omega) [bM,t1,t2,w,t3,f0,f1,f2,f4,f5,f12]));(try(refine al [0,1,2,4,5,12] ?_;intro F;simp only[ak];intro U ab aa ad ah aX;simp(disch:=omega) [bM,t1,t2,w,t3,f0,f1,f2,f4,f5,f12] at U ab aa ad ah aX;clear f0 f1 f2 f4 f5 f12;have f0:=U;have f1:=ab;have f2:=aa;have f4:=ad;have f5:=ah;have f12:=aX;clear U ab aa ad ah aX)))
    | (refine aJ _ (by simp(disch:=omega) [bM,t1,t2,w,t3,f0,f1,f2,f4,f5,f12];rfl) (fun I=>?_) (fun I=>?_)<;>first|(exfalso;simp(disch:=omega) [bM,t1,t2,w,t3] at I;done)|(exfalso;simp at I;omega)|(simp at I))
    | ((first|refine aH ?_|refine aN ?_);simp(disch:=omega) [bM,t1,t2,w,t3,f0,f1,f2,f4,f5,f12]))
 · rw[if_neg bj]
   have aC:¬ai y= []:=fun h=>bj (g3.1 h)
   have w:=rR y trivial (args:=[aw y]) (by simp)
   have t3:=Dd (s,(y:Int)) ⟨by simp only;omega,by simp only[pY];omega,by simp only;omega⟩ (args:=[a7 s,a7 (y:Int)]) (by simp)
   simp only at t3
   generalize Rat.divInt s (y:Int)=q at*
   generalize (y:Int)=o at*
   unfold i28
   refine al [0,1,2,4,5,12] fun F=>?_
   simp only[ak]
   intro f0 f1 f2 f4 f5 f12
   simp[a8] at f0 f1 f2 f4 f5 f12
   repeat' (first
    | refine ax ?_
    | ((fail_if_success (refine aQ ?_));(fail_if_success (refine aR ?_));refine aL ?_)
    | ((first|(refine az aM ?_;simp(disch:=omega) [aC,t1,t2,w,t3,f0,f1,f2,f4,f5,f12];(try(refine⟨by first|decide|rfl,?_⟩)))|(refine aK ?_;simp(disch:=omega) [aC,t1,t2,w,t3,f0,f1,f2,f4,f5,f12]));(try(refine al [0,1,2,4,5,12] ?_;intro F;simp only[ak];intro U ab aa ad ah aX;simp(disch:=omega) [aC,t1,t2,w,t3,f0,f1,f2,f4,f5,f12] at U ab aa ad ah aX;clear f0 f1 f2 f4 f5 f12;have f0:=U;have f1:=ab;have f2:=aa;have f4:=ad;have f5:=ah;have f12:=aX;clear U ab aa ad ah aX)))
    | (refine aJ _ (by simp(disch:=omega) [aC,t1,t2,w,t3,f0,f1,f2,f4,f5,f12];rfl) (fun I=>?_) (fun I=>?_)<;>first|(exfalso;simp(disch:=omega) [aC,t1,t2,w,t3] at I;done)|(exfalso;simp at I;omega)|(simp at I))
    | ((first|refine aH ?_|refine aN ?_);simp(disch:=omega) [aC,t1,t2,w,t3,f0,f1,f2,f4,f5,f12]))
end
end
section
theorem n7 {a b c:Rat} (h:a<b) (h2:b<=c):a<c:=by grind
theorem rS {a b c:Rat} (h:a<=b) (h2:b<c):a<c:=by grind
section
abbrev cj (β:Nat) (e:Int):Rat:=(β:Rat)^e
variable {β:Nat}
theorem KC (h:2<=β):(0:Rat)<(β:Rat):=by
 have:((0:Nat):Rat)<(β:Rat):=Rat.natCast_lt_natCast.2 (by omega)
 exact this
theorem Wb (h:2<=β):(β:Rat)≠0:=Rat.ne_of_gt (KC h)
theorem h_ (h:2<=β) (e:Int):0<cj β e:=Rat.zpow_pos (KC h)
theorem lx (h:2<=β) (a b:Int):cj β (a+b)=cj β a*cj β b:=Rat.zpow_add (Wb h) a b
theorem kR (n:Nat):cj β (n:Int)=((β^n:Nat):Rat):=by
 rw[cj,Rat.zpow_natCast,Rat.natCast_pow]
theorem KD:cj β 0=1:=Rat.zpow_zero _
theorem Wc (e:Int):cj β (-e)=(cj β e)⁻¹ :=Rat.zpow_neg _ _
theorem Wd (h:2<=β) (n:Nat):1<=cj β (n:Int):=by
 rw[kR]
 have:((1:Nat):Rat)<=((β^n:Nat):Rat):=Rat.natCast_le_natCast.2 (Nat.pow_pos (by omega))
 exact this
theorem qM (h:2<=β) {a b:Int} (g2:a<=b):cj β a<=cj β b:=by
 obtain⟨n,rfl⟩:∃n:Nat,b=a+n:=⟨(b - a).toNat,by omega⟩
 rw[lx h]
 have ae:=Rat.mul_le_mul_of_nonneg_left (Wd h n) (Rat.le_of_lt (h_ h a))
 rwa [Rat.mul_one] at ae
theorem We (h:2<=β) (s:Rat):∃n:Nat,s<cj β (n:Int):=by
 refine⟨(s.floor+1).toNat,?_⟩
 have ae:=Rat.lt_floor_add_one s
 have h2:∀n:Nat,n<β^n:=fun n=>Nat.lt_pow_self (by omega)
 rw[kR]
 refine n7 ae ?_
 have aO:((s.floor+1:Int):Rat)<=(((s.floor+1).toNat:Int):Rat):=Rat.intCast_le_intCast.2 (by omega)
 refine Rat.le_trans aO ?_
 have a2:(((s.floor+1).toNat:Nat):Rat)<=((β^(s.floor+1).toNat:Nat):Rat):=Rat.natCast_le_natCast.2 (Nat.le_of_lt (h2 _))
 exact a2
structure cX (β p:Nat) (bd:Int) (s:Rat) (e:Int):Prop where
 ge:bd<=e
 up:s<cj β (e+p)
 low:e=bd\/cj β (e - 1+p)<=s
theorem Wf (h:2<=β) (p:Nat) (bd:Int) (s:Rat):∃e,cX β p bd s e:=by
 obtain⟨n,aC⟩:=We h (s*cj β (-(bd+p)))
 have aP:s<cj β (bd+n+p):=by
  rw[show bd+n+p=n+(bd+p) by omega,lx h]
  have ae:=Rat.mul_lt_mul_of_pos_right aC (h_ h (bd+p))
  rwa [Rat.mul_assoc,<-lx h,show -(bd+(p:Int))+(bd+p)=0 by omega,KD,Rat.mul_one] at ae
 clear aC
 induction n with
 | zero=>exact ⟨bd,Int.le_refl _,by simpa using aP,.inl rfl⟩
 | succ n b_=>
   by_cases ae:s<cj β (bd+n+p)
   · exact b_ ae
   · refine⟨bd+(n+1:Nat),by omega,aP,.inr ?_⟩
     rw[show bd+((n+1:Nat):Int) - 1+p=bd+n+p by omega]
     exact Rat.not_lt.1 ae
def e5 (β:Nat) (s:Rat) (e:Int):Nat:=(s/cj β e).floor.toNat
theorem vv (h:2<=β) {s:Rat} (aP:0<=s) (e:Int):(e5 β s e:Rat)*cj β e<=s/\s<((e5 β s e+1:Nat):Rat)*cj β e:=by
 have au:=h_ h e
 have aS:0<=s/cj β e:=by
  rw[Rat.div_def];exact Rat.mul_nonneg aP (Rat.le_of_lt (Rat.inv_pos.2 au))
 have ae:0<=(s/cj β e).floor:=Rat.le_floor_iff.2 aS
 have aj:((e5 β s e:Nat):Int)=(s/cj β e).floor:=by unfold e5;omega
 have h2:=Rat.floor_le (s/cj β e)
 have aO:=Rat.lt_floor_add_one (s/cj β e)
 rw[<-aj] at h2 aO
 have a2:=Rat.mul_le_mul_of_nonneg_right h2 (Rat.le_of_lt au)
 have cf:=Rat.mul_lt_mul_of_pos_right aO au
 rw[Rat.div_mul_cancel (Rat.ne_of_gt au)] at a2 cf
 exact ⟨a2,cf⟩
theorem zH (h:2<=β) {s:Rat} {e:Int} {m:Nat} (ae:(m:Rat)*cj β e<=s) (h2:s<((m+1:Nat):Rat)*cj β e):e5 β s e=m:=by
 have au:=h_ h e
 have aS:(0:Rat)<=s:=by
  refine Rat.le_trans ?_ ae
  exact Rat.mul_nonneg (Rat.natCast_nonneg) (Rat.le_of_lt au)
 obtain⟨aO,a2⟩:=vv h aS e
 have a:(m:Rat)<((e5 β s e+1:Nat):Rat):=(Rat.mul_lt_mul_right au).1 (rS ae a2)
 have b:((e5 β s e:Nat):Rat)<((m+1:Nat):Rat):=(Rat.mul_lt_mul_right au).1 (rS aO h2)
 have ep:=Rat.natCast_lt_natCast.1 a
 have gF:=Rat.natCast_lt_natCast.1 b
 omega
theorem cX.xq (h:2<=β) {p:Nat} {bd:Int} {s:Rat} (aP:0<=s) {e:Int} (dL:cX β p bd s e):e5 β s e<β^p:=by
 have ae:=(vv h aP e).1
 have h2:=rS ae dL.up
 rw[show e+p=(p:Int)+e by omega,lx h,kR] at h2
 exact Rat.natCast_lt_natCast.1 ((Rat.mul_lt_mul_right (h_ h e)).1 h2)
theorem cX.Wg (h:2<=β) {p:Nat} (bc:1<=p) {bd:Int} {s:Rat} (aP:0<=s) {e:Int} (dL:cX β p bd s e):e=bd\/β^(p - 1)<=e5 β s e:=by
 rcases dL.low with ae|ae
 · exact .inl ae
 · right
   have h2:=rS ae (vv h aP e).2
   rw[show e - 1+p=((p - 1:Nat):Int)+e by omega,lx h,kR] at h2
   have aO:=Rat.natCast_lt_natCast.1 ((Rat.mul_lt_mul_right (h_ h e)).1 h2)
   omega
def qN (β p:Nat) (bd:Int) (x:Rat):Prop:=∃(m:Nat) (e:Int),m<β^p/\bd<=e/\x=(m:Rat)*cj β e
theorem cX.vw (h:2<=β) {p:Nat} (bc:1<=p) {bd:Int} {s:Rat} (aP:0<=s) {e:Int} (dL:cX β p bd s e) {x:Rat} (av:qN β p bd x):x<=(e5 β s e:Rat)*cj β e\/((e5 β s e+1:Nat):Rat)*cj β e<=x:=by
 obtain⟨m,e',hm,he,rfl⟩:=av
 have au:=h_ h e
 by_cases ae:e<=e'
 · obtain⟨n,rfl⟩:∃n:Nat,e'=n+e:=⟨(e' - e).toNat,by omega⟩
   rw[lx h,<-Rat.mul_assoc,kR,<-Rat.natCast_mul]
   by_cases h2:m*β^n<=e5 β s e
   · exact .inl (Rat.mul_le_mul_of_nonneg_right (Rat.natCast_le_natCast.2 h2) (Rat.le_of_lt au))
   · exact .inr (Rat.mul_le_mul_of_nonneg_right (Rat.natCast_le_natCast.2 (by omega)) (Rat.le_of_lt au))
 · left
   rcases dL.low with h2|h2
   · omega
   · have aO:(m:Rat)*cj β e'<=cj β (e - 1+p):=by
      have a2:(m:Rat)*cj β e'<=((β^p:Nat):Rat)*cj β e':=Rat.mul_le_mul_of_nonneg_right (Rat.natCast_le_natCast.2 (Nat.le_of_lt hm)) (Rat.le_of_lt (h_ h e'))
      rw[<-kR,<-lx h] at a2
      exact Rat.le_trans a2 (qM h (by omega))
     refine Rat.le_trans aO ?_
     obtain⟨k,aI⟩:∃k:Nat,(k:Int)=p - 1:=⟨p - 1,by omega⟩
     rw[show e - 1+(p:Int)=k+e by omega,lx h,kR] at h2|-
     have dS:=rS h2 (vv h aP e).2
     have lf:=Rat.natCast_lt_natCast.1 ((Rat.mul_lt_mul_right au).1 dS)
     exact Rat.mul_le_mul_of_nonneg_right (Rat.natCast_le_natCast.2 (by omega)) (Rat.le_of_lt au)
end
end
section
def ho (dir:Nat) (neg fz:Bool) (half:Int):Bool:=match dir with
 | 0=>decide (0<half)||(decide (half=0)&&fz)
 | 1=>decide (0<=half)
 | 2=>false
 | 3=>!neg
 | _=>neg
def vx (dir:Nat) (neg:Bool):Bool:=match dir with
 | 0=>true
 | 1=>true
 | 2=>false
 | 3=>!neg
 | _=>neg
def gM (r:Rat):Int:=if 2*r<1 then -1 else if 1<2*r then 1 else 0
theorem KE {a b c:Rat} (I:0<c) (h:a*c<=b*c):a<=b:=Rat.not_lt.1 fun h2=>Rat.not_lt.2 h (Rat.mul_lt_mul_of_pos_right h2 I)
section
variable {β:Nat}
def rs (β:Nat) (s:Rat) (e:Int):Rat:=s/cj β e -(e5 β s e:Rat)
def zI (β:Nat) (dir:Nat) (neg:Bool) (s:Rat) (e:Int):Bool:=decide (0<rs β s e)&&ho dir neg (decide (e5 β s e%2=1)) (gM (rs β s e))
def er (β:Nat) (dir:Nat) (neg:Bool) (s:Rat) (e:Int):Nat:=if zI β dir neg s e then e5 β s e+1 else e5 β s e
def rT (β:Nat) (dir:Nat) (neg:Bool) (s:Rat) (e:Int):Rat:=(er β dir neg s e:Rat)*cj β e
theorem zJ {dir:Nat} {neg:Bool} {s:Rat} {e:Int}:e5 β s e<=er β dir neg s e/\er β dir neg s e<=e5 β s e+1:=by
 unfold er;split<;>omega
theorem cX.KF {p:Nat} (h:2<=β) {bd:Int} {s:Rat} (aP:0<=s) {e:Int} (dL:cX β p bd s e) (dir:Nat) (neg:Bool):er β dir neg s e<=β^p:=by
 have:=dL.xq h aP
 have:=(zJ (β:=β) (dir:=dir) (neg:=neg) (s:=s) (e:=e)).2
 omega
theorem KG {p:Nat} (h:2<=β) (bc:1<=p) {bd e:Int} (he:bd<=e) {m:Nat} (hm:m<=β^p):qN β p bd ((m:Rat)*cj β e):=by
 by_cases ae:m<β^p
 · exact ⟨m,e,ae,he,rfl⟩
 · obtain rfl:m=β^p:=by omega
   obtain⟨k,rfl⟩:∃k,p=k+1:=⟨p - 1,by omega⟩
   refine⟨β^k,e+1,Nat.pow_lt_pow_right (by omega) (by omega),by omega,?_⟩
   rw[<-kR,<-kR,<-lx h,<-lx h]
   congr 1;omega
theorem cX.Wh {p:Nat} (h:2<=β) (bc:1<=p) {bd:Int} {s:Rat} (aP:0<=s) {e:Int} (dL:cX β p bd s e) (dir:Nat) (neg:Bool):qN β p bd (rT β dir neg s e):=KG h bc dL.ge (dL.KF h aP dir neg)
theorem Wi {r t:Rat} (h:r<=t):gM r<=gM t:=by
 unfold gM
 split<;>split<;>(try split)<;>(try split)<;>first|decide|(exfalso;grind)
theorem Wj {dir:Nat} {neg fz:Bool} {a b:Int} (h:a<=b) (g:ho dir neg fz a=true):ho dir neg fz b=true:=by
 unfold ho at g|-
 split at g
 · simp only[Bool.or_eq_true,decide_eq_true_eq,Bool.and_eq_true] at g|-
   rcases g with g|⟨ba,br⟩
   · left;omega
   · by_cases au:b=0
     · exact .inr ⟨au,br⟩
     · left;omega
 · simp only[decide_eq_true_eq] at g|-;omega
 · exact g
 · exact g
 · simp_all
theorem Wk {p:Nat} (h:2<=β) (bc:1<=p) {bd:Int} {s t:Rat} (aP:0<=s) (fL:s<=t) {e e':Int} (dL:cX β p bd s e) (bR:cX β p bd t e') (dir:Nat) (neg:Bool):rT β dir neg s e<=rT β dir neg t e':=by
 have a':0<=t:=Rat.le_trans aP fL
 have au:=h_ h e
 have qi:=h_ h e'
 obtain⟨a1,cP⟩:=vv h aP e
 obtain⟨b1,cN⟩:=vv h a' e'
 have cV:(e5 β t e':Rat)*cj β e'<=rT β dir neg t e':=Rat.mul_le_mul_of_nonneg_right (Rat.natCast_le_natCast.2 zJ.1) (Rat.le_of_lt qi)
 have cY:rT β dir neg s e<=((e5 β s e+1:Nat):Rat)*cj β e:=Rat.mul_le_mul_of_nonneg_right (Rat.natCast_le_natCast.2 zJ.2) (Rat.le_of_lt au)
 rcases dL.vw h bc aP (x:=(e5 β t e':Rat)*cj β e') ⟨_,_,bR.xq h a',bR.ge,rfl⟩ with ae|ae
 ·
  have h2:t<((e5 β s e+1:Nat):Rat)*cj β e:=by
   refine Rat.not_le.1 fun aO=>?_
   rcases bR.vw h bc a' (x:=((e5 β s e+1:Nat):Rat)*cj β e) (KG h bc dL.ge (by have:=dL.xq h aP;omega)) with a2|a2
   · have:=Rat.le_trans a2 ae
     have cf:((e5 β s e+1:Nat):Rat)<=(e5 β s e:Rat):=KE au this
     have:=Rat.natCast_le_natCast.1 cf
     omega
   · exact absurd (n7 cN (Rat.le_trans a2 aO)) Rat.lt_irrefl
  by_cases he:e=e'
  · subst he
    have aO:e5 β t e=e5 β s e:=zH h (Rat.le_trans a1 fL) h2
    have a2:rs β s e<=rs β t e:=by
     unfold rs;rw[aO]
     have:s/cj β e<=t/cj β e:=by
      rw[Rat.div_def,Rat.div_def]
      exact Rat.mul_le_mul_of_nonneg_right fL (Rat.le_of_lt (Rat.inv_pos.2 au))
     grind
    refine Rat.mul_le_mul_of_nonneg_right (Rat.natCast_le_natCast.2 ?_) (Rat.le_of_lt au)
    unfold er
    rw[aO]
    by_cases hu:zI β dir neg s e=true
    · have Wl:zI β dir neg t e=true:=by
       unfold zI at hu|-
       rw[aO]
       simp only[Bool.and_eq_true,decide_eq_true_eq] at hu|-
       exact ⟨n7 hu.1 a2,Wj (Wi a2) hu.2⟩
      rw[if_pos hu,if_pos Wl]
      exact Nat.le_refl _
    · rw[if_neg hu]
      split<;>omega
  ·
   exfalso
   have aO:e<e':=by
    rcases bR.low with a2|a2
    · rcases dL.low with cf|cf
      · omega
      · have:=dL.ge
        by_cases dS:e<e'
        · exact dS
        · have lf:=qM h (show e'+p<=e - 1+p by omega)
          have kY:=bR.up
          exact absurd (n7 kY (Rat.le_trans lf (Rat.le_trans cf fL))) Rat.lt_irrefl
    · by_cases dS:e<e'
      · exact dS
      · have dI:e'<e:=by omega
        have lf:=qM h (show e'+p<=e - 1+p by omega)
        have kY:=bR.up
        rcases dL.low with cf|cf
        · have:=bR.ge;omega
        · exact absurd (n7 kY (Rat.le_trans lf (Rat.le_trans cf fL))) Rat.lt_irrefl
   rcases bR.low with a2|a2
   · have:=dL.ge;omega
   · have cf:=qM h (show e+p<=e' - 1+p by omega)
     have dS:((e5 β s e+1:Nat):Rat)*cj β e<=cj β (e+p):=by
      rw[show e+(p:Int)=p+e by omega,lx h,kR]
      exact Rat.mul_le_mul_of_nonneg_right (Rat.natCast_le_natCast.2 (by have:=dL.xq h aP;omega)) (Rat.le_of_lt au)
     exact absurd (n7 h2 (Rat.le_trans dS (Rat.le_trans cf a2))) Rat.lt_irrefl
 · exact Rat.le_trans cY (Rat.le_trans ae cV)
end
end
section
structure eZ where
 k:Nat
 neg:Bool
 m:Nat
 e:Int
structure cE where
 β:Nat
 p:Nat
 bd:Int
 an:Int
structure cE.hH (f:cE):Prop where
 b:2<=f.β
 p:1<=f.p
 w3:f.bd<=f.an
structure n8 (f:cE) (m:Nat) (e:Int):Prop where
 pos:0<m
 lt:m<f.β^f.p
 ge:f.bd<=e
 low:e=f.bd\/f.β^(f.p - 1)<=m
def kt (f:cE) (x:eZ):Prop:=((x.k=0\/x.k=2)/\x.m=0/\x.e=0)\/(x.k=1/\n8 f x.m x.e/\x.e<=f.an)
theorem n8.ex {f:cE} (aT:f.hH) {m:Nat} {e:Int} (h:n8 f m e):cX f.β f.p f.bd ((m:Rat)*cj f.β e) e/\e5 f.β ((m:Rat)*cj f.β e) e=m:=by
 have au:=h_ aT.b e
 refine⟨⟨h.ge,?_,?_⟩,zH aT.b (Rat.le_refl) ?_⟩
 · rw[show e+(f.p:Int)=f.p+e by omega,lx aT.b,kR]
   exact Rat.mul_lt_mul_of_pos_right (Rat.natCast_lt_natCast.2 h.lt) au
 · rcases h.low with ae|ae
   · exact .inl ae
   · right
     have bc:=aT.p
     rw[show e - 1+(f.p:Int)=((f.p - 1:Nat):Int)+e by omega,lx aT.b,kR]
     exact Rat.mul_le_mul_of_nonneg_right (Rat.natCast_le_natCast.2 ae) (Rat.le_of_lt au)
 · exact Rat.mul_lt_mul_of_pos_right (Rat.natCast_lt_natCast.2 (by omega)) au
theorem n8.sz {f:cE} {m:Nat} {e:Int} (h:n8 f m e):qN f.β f.p f.bd ((m:Rat)*cj f.β e):=⟨m,e,h.lt,h.ge,rfl⟩
theorem n8.pos' {f:cE} (aT:f.hH) {m:Nat} {e:Int} (h:n8 f m e):0<(m:Rat)*cj f.β e:=Rat.mul_pos (by have:=Rat.natCast_lt_natCast.2 h.pos;exact this) (h_ aT.b e)
def carry (f:cE) (m:Nat) (e:Int):Nat × Int:=if m=f.β^f.p then (f.β^(f.p - 1),e+1) else (m,e)
def tt (f:cE) (neg:Bool):eZ:=⟨1,neg,f.β^f.p - 1,f.an⟩
def pick (f:cE) (dir:Nat) (neg:Bool) (m:Nat) (e:Int):eZ:=
 if m=0 then ⟨0,neg,0,0⟩ else if e<=f.an then ⟨1,neg,m,e⟩ else if vx dir neg then ⟨2,neg,0,0⟩ else tt f neg
noncomputable def lW (f:cE) (s:Rat):Int:=Classical.epsilon fun e=>cX f.β f.p f.bd s e
theorem rU {f:cE} (aT:f.hH) (s:Rat):cX f.β f.p f.bd s (lW f s):=Classical.epsilon_spec (Wf aT.b f.p f.bd s)
def dZ (w:Rat):Rat:=if w<0 then -w else w
theorem xr (w:Rat):0<=dZ w:=by unfold dZ;split<;>grind
noncomputable def pn (f:cE) (dir:Nat) (neg:Bool) (s:Rat):eZ:=
 pick f dir neg (carry f (er f.β dir neg s (lW f s)) (lW f s)).1 (carry f (er f.β dir neg s (lW f s)) (lW f s)).2
noncomputable def dE (f:cE) (dir:Nat) (w:Rat):eZ:=if w=0 then ⟨0,false,0,0⟩ else pn f dir (decide (w<0)) (dZ w)
noncomputable def fP (f:cE) (x:eZ):Rat:=if x.k=2 then cj f.β (f.an+f.p) else (x.m:Rat)*cj f.β x.e
noncomputable def dR (f:cE) (x:eZ):Rat:=if x.neg then -fP f x else fP f x
noncomputable def cap (f:cE) (dir:Nat) (neg:Bool) (x:Rat):Rat:=if x<cj f.β (f.an+f.p) then x else if vx dir neg then cj f.β (f.an+f.p) else ((f.β^f.p - 1:Nat):Rat)*cj f.β f.an
theorem zK {f:cE} (aT:f.hH):2<=f.β^f.p:=by
 have ae:f.β^1<=f.β^f.p:=Nat.pow_le_pow_right (by have:=aT.b;omega) aT.p
 have:=aT.b
 simp only[Nat.pow_one] at ae;omega
theorem Wm {f:cE} (aT:f.hH) (m:Nat) (e:Int):((carry f m e).1:Rat)*cj f.β (carry f m e).2=(m:Rat)*cj f.β e:=by
 unfold carry
 split
 · rename_i h
   rw[h]
   have bc:=aT.p
   simp only
   rw[<-kR,<-kR,<-lx aT.b,<-lx aT.b]
   congr 1;omega
 · rfl
theorem KH {f:cE} (aT:f.hH) {s:Rat} (aP:0<=s) {e:Int} (dL:cX f.β f.p f.bd s e) (dir:Nat) (neg:Bool):(carry f (er f.β dir neg s e) e).1=0\/n8 f (carry f (er f.β dir neg s e) e).1 (carry f (er f.β dir neg s e) e).2:=by
 have ae:=dL.KF aT.b aP dir neg
 have h2:=zJ (β:=f.β) (dir:=dir) (neg:=neg) (s:=s) (e:=e)
 have aO:=dL.Wg aT.b aT.p aP
 have a2:=dL.ge
 have bc:=aT.p
 have Df:0<f.β^(f.p - 1):=Nat.pow_pos (by have:=aT.b;omega)
 unfold carry
 split
 · right
   exact ⟨Df,Nat.pow_lt_pow_right (by have:=aT.b;omega) (by omega),by simp only;omega,.inr (Nat.le_refl _)⟩
 · by_cases aS:er f.β dir neg s e=0
   · exact .inl aS
   · right
     refine⟨by simp only;omega,by simp only;omega,a2,?_⟩
     rcases aO with aO|aO
     · exact .inl aO
     · exact .inr (by simp only;omega)
theorem zL {f:cE} (aT:f.hH) {m:Nat} {e:Int} (h:n8 f m e):(m:Rat)*cj f.β e<cj f.β (f.an+f.p)↔e<=f.an:=by
 have au:=h_ aT.b e
 constructor
 · intro ae
   refine Int.not_lt.1 fun h2=>?_
   rcases h.low with aO|aO
   · have:=aT.w3;omega
   · have bc:=aT.p
     have a2:=qM aT.b (show f.an+(f.p:Int)<=((f.p - 1:Nat):Int)+e by omega)
     rw[lx aT.b ((f.p - 1:Nat):Int) e,kR] at a2
     have cf:((f.β^(f.p - 1):Nat):Rat)*cj f.β e<=(m:Rat)*cj f.β e:=Rat.mul_le_mul_of_nonneg_right (Rat.natCast_le_natCast.2 aO) (Rat.le_of_lt au)
     exact absurd (n7 ae (Rat.le_trans a2 cf)) Rat.lt_irrefl
 · intro ae
   have h2:=(h.ex aT).1.up
   exact n7 h2 (qM aT.b (by omega))
theorem vy {f:cE} (aT:f.hH):n8 f (f.β^f.p - 1) f.an:=by
 have ae:=zK aT
 have bc:=aT.p
 have h2:f.β^(f.p - 1)<f.β^f.p:=Nat.pow_lt_pow_right (by have:=aT.b;omega) (by omega)
 exact ⟨by omega,by omega,aT.w3,.inr (by omega)⟩
theorem Wn {f:cE} (aT:f.hH) {m:Nat} {e:Int} (h:m=0\/n8 f m e) (dir:Nat) (neg:Bool):kt f (pick f dir neg m e):=by
 unfold pick
 split
 · exact .inl ⟨.inl rfl,rfl,rfl⟩
 · rename_i aS
   have aC:=h.resolve_left aS
   split
   · rename_i ae;exact .inr ⟨rfl,aC,ae⟩
   · split
     · exact .inl ⟨.inr rfl,rfl,rfl⟩
     · exact .inr ⟨rfl,vy aT,Int.le_refl _⟩
theorem Wo (f:cE) (dir:Nat) (neg:Bool) (m:Nat) (e:Int):(pick f dir neg m e).neg=neg:=by
 unfold pick tt;split<;>(try split)<;>(try split)<;>rfl
theorem Wp {f:cE} (aT:f.hH) {m:Nat} {e:Int} (h:m=0\/n8 f m e) (dir:Nat) (neg:Bool):fP f (pick f dir neg m e)=cap f dir neg ((m:Rat)*cj f.β e):=by
 unfold pick
 split
 · rename_i aS
   subst aS
   unfold cap fP
   rw[if_neg (by simp),show ((0:Nat):Rat)*cj f.β 0=0 from Rat.zero_mul _,show ((0:Nat):Rat)*cj f.β e=0 from Rat.zero_mul _,if_pos (h_ aT.b _)]
 · rename_i aS
   have aC:=h.resolve_left aS
   have de:=zL aT aC
   unfold cap
   split
   · rename_i ae
     rw[if_pos (de.2 ae)]
     unfold fP
     rw[if_neg (by simp)]
   · rename_i ae
     rw[if_neg (fun h2=>ae (de.1 h2))]
     split
     · rename_i h2;unfold fP;rw[if_pos rfl]
     · rename_i h2;unfold fP tt;rw[if_neg (by simp)]
theorem Wq {f:cE} (aT:f.hH) (dir:Nat) (neg:Bool) {s:Rat} (aP:0<=s):kt f (pn f dir neg s):=Wn aT (KH aT aP (rU aT s) dir neg) dir neg
theorem KI {f:cE} (aT:f.hH) (dir:Nat) (w:Rat):kt f (dE f dir w):=by
 unfold dE
 split
 · exact .inl ⟨.inl rfl,rfl,rfl⟩
 · exact Wq aT dir _ (xr w)
theorem zM (f:cE) (dir:Nat) (neg:Bool) (s:Rat):(pn f dir neg s).neg=neg:=Wo ..
theorem zN {f:cE} (aT:f.hH) (dir:Nat) (neg:Bool) {s:Rat} (aP:0<=s):fP f (pn f dir neg s)=cap f dir neg (rT f.β dir neg s (lW f s)):=by
 unfold pn
 rw[Wp aT (KH aT aP (rU aT s) dir neg),Wm aT,rT]
theorem Wr {f:cE} (aT:f.hH) (dir:Nat) (neg:Bool) {x y:Rat} (av:qN f.β f.p f.bd x) (e4:0<=x) (np:x<=y):cap f dir neg x<=cap f dir neg y:=by
 have bq:∀x,qN f.β f.p f.bd x->0<=x->x<cj f.β (f.an+f.p)->x<=((f.β^f.p - 1:Nat):Rat)*cj f.β f.an:=fun x av e4 b6=>by
  obtain⟨ae,h2⟩:=(vy aT).ex aT
  have qJ:=Rat.le_of_lt ((vy aT).pos' aT)
  rcases ae.vw aT.b aT.p qJ av with aO|aO
  · rwa [h2] at aO
  · rw[h2,show f.β^f.p - 1+1=f.β^f.p by have:=zK aT;omega,<-kR,<-lx aT.b,Int.add_comm] at aO
    exact absurd (n7 b6 aO) Rat.lt_irrefl
 have Ws:((f.β^f.p - 1:Nat):Rat)*cj f.β f.an<cj f.β (f.an+f.p):=(zL aT (vy aT)).2 (Int.le_refl _)
 unfold cap
 by_cases ae:y<cj f.β (f.an+f.p)
 · rw[if_pos ae,if_pos (rS np ae)];exact np
 · rw[if_neg ae]
   by_cases h2:x<cj f.β (f.an+f.p)
   · rw[if_pos h2]
     split
     · exact Rat.le_of_lt h2
     · exact bq x av e4 h2
   · rw[if_neg h2];exact Rat.le_refl
theorem Dg {β:Nat} (h:2<=β) (dir:Nat) (neg:Bool) (s:Rat) (e:Int):0<=rT β dir neg s e:=Rat.mul_nonneg Rat.natCast_nonneg (Rat.le_of_lt (h_ h e))
theorem KJ {f:cE} (aT:f.hH) (dir:Nat) (neg:Bool) {x:Rat} (h:0<=x):0<=cap f dir neg x:=by
 unfold cap
 split
 · exact h
 · split
   · exact Rat.le_of_lt (h_ aT.b _)
   · exact Rat.le_of_lt ((vy aT).pos' aT)
theorem KK {f:cE} (aT:f.hH) (dir:Nat) (neg:Bool) {s t:Rat} (aP:0<=s) (fL:s<=t):fP f (pn f dir neg s)<=fP f (pn f dir neg t):=by
 have a':=Rat.le_trans aP fL
 rw[zN aT dir neg aP,zN aT dir neg a']
 exact Wr aT dir neg ((rU aT s).Wh aT.b aT.p aP dir neg) (Dg aT.b ..) (Wk aT.b aT.p aP fL (rU aT s) (rU aT t) dir neg)
theorem KL (f:cE) (neg:Bool):fP f ⟨0,neg,0,0⟩=0:=by unfold fP;rw[if_neg (by simp)];exact Rat.zero_mul _
theorem KM {f:cE} (aT:f.hH) (dir:Nat) {a b:Rat} (h:a<=b):dR f (dE f dir a)<=dR f (dE f dir b):=by
 have pA:∀w:Rat,0<=w->0<=dR f (dE f dir w):=fun w hw=>by
  unfold dE
  split
  · unfold dR;rw[if_neg (by decide),KL];exact Rat.le_refl
  · unfold dR
    rw[zM,decide_eq_false (Rat.not_lt.2 hw),if_neg Bool.false_ne_true,zN aT _ _ (xr w)]
    exact KJ aT _ _ (Dg aT.b ..)
 have xS:∀w:Rat,w<0->dR f (dE f dir w)<=0:=fun w hw=>by
  unfold dE
  rw[if_neg (by grind)]
  unfold dR
  rw[zM,decide_eq_true hw,if_pos rfl,zN aT _ _ (xr w)]
  have:=KJ aT dir true (Dg aT.b dir true (dZ w) (lW f (dZ w)))
  grind
 by_cases bF:a<0
 · by_cases au:b<0
   · have e:∀w:Rat,w<0->dR f (dE f dir w)= -fP f (pn f dir true (-w)):=fun w hw=>by
      unfold dE
      rw[if_neg (by grind)]
      unfold dR
      rw[zM,decide_eq_true hw,if_pos rfl,show dZ w= -w from if_pos hw]
     rw[e a bF,e b au]
     have:=KK aT dir true (s:= -b) (t:= -a) (by grind) (by grind)
     grind
   · exact Rat.le_trans (xS a bF) (pA b (Rat.not_lt.1 au))
 · have ml:=Rat.not_lt.1 bF
   have e9:=Rat.le_trans ml h
   by_cases ae:a=0
   · subst ae
     refine Rat.le_trans ?_ (pA b e9)
     unfold dE;rw[if_pos rfl];unfold dR;rw[if_neg (by decide),KL];exact Rat.le_refl
   · have h2:b≠0:=by grind
     have e:∀w:Rat,0<=w->w≠0->dR f (dE f dir w)=fP f (pn f dir false w):=fun w hw tu=>by
      unfold dE
      rw[if_neg tu]
      unfold dR
      rw[zM,decide_eq_false (Rat.not_lt.2 hw),if_neg Bool.false_ne_true,show dZ w=w from if_neg (Rat.not_lt.2 hw)]
     rw[e a ml ae,e b e9 h2]
     exact KK aT dir false ml h
end
section
theorem KN {f:cE} {x:eZ} (h:x.k≠2):fP f x=(x.m:Rat)*cj f.β x.e:=if_neg h
theorem Wt {f:cE} (aT:f.hH) (x:eZ):0<=fP f x:=by
 unfold fP
 split
 · exact Rat.le_of_lt (h_ aT.b _)
 · exact Rat.mul_nonneg Rat.natCast_nonneg (Rat.le_of_lt (h_ aT.b _))
end
section
theorem Wu {f:cE} (aT:f.hH) {y:eZ} (bj:kt f y) (aI:y.k≠2):qN f.β f.p f.bd (fP f y)/\fP f y<=((f.β^f.p - 1:Nat):Rat)*cj f.β f.an/\fP f y<cj f.β (f.an+f.p):=by
 have bq:=vy aT
 have KO:=bq.pos' aT
 have Ws:=(zL aT bq).2 (Int.le_refl _)
 rw[KN aI]
 rcases bj with⟨ae,h2,aO⟩|⟨ae,h2,aO⟩
 · rw[h2,show ((0:Nat):Rat)*cj f.β y.e=0 from Rat.zero_mul _]
   refine⟨⟨0,f.bd,by have:=zK aT;omega,Int.le_refl _,(Rat.zero_mul _).symm⟩,Rat.le_of_lt KO,h_ aT.b _⟩
 · have a2:=(zL aT h2).2 aO
   refine⟨h2.sz,?_,a2⟩
   obtain⟨cf,dS⟩:=bq.ex aT
   rcases cf.vw aT.b aT.p (Rat.le_of_lt KO) h2.sz with lf|lf
   · rwa [dS] at lf
   · rw[dS,show f.β^f.p - 1+1=f.β^f.p by have:=zK aT;omega,<-kR,<-lx aT.b,Int.add_comm] at lf
     exact absurd (n7 a2 lf) Rat.lt_irrefl
end
section
theorem KP {f:cE} {m:Nat} {e:Int} (h:m<f.β^f.p):carry f m e=(m,e):=by unfold carry;rw[if_neg (by omega)]
end
section
def Sl (f:cE) (a b:eZ):Int:=if a.k=1/\b.k=1 then min a.e b.e else f.bd
end
section
structure Cell (f:cE) (x:eZ) (m:Nat) (e:Int):Prop where
 Wv:fP f x=(m:Rat)*cj f.β e
 ex:cX f.β f.p f.bd ((m:Rat)*cj f.β e) e
 lt:m<f.β^f.p
 an:e<=f.an
theorem Cell.e5 {f:cE} (aT:f.hH) {x:eZ} {m:Nat} {e:Int} (c:Cell f x m e):e5 f.β ((m:Rat)*cj f.β e) e=m:=
 zH aT.b Rat.le_refl (Rat.mul_lt_mul_of_pos_right (Rat.natCast_lt_natCast.2 (by omega)) (h_ aT.b e))
theorem Cell.vw {f:cE} (aT:f.hH) {x:eZ} {m:Nat} {e:Int} (c:Cell f x m e) {y:Rat} (bj:qN f.β f.p f.bd y):y<=fP f x\/((m+1:Nat):Rat)*cj f.β e<=y:=by
 have h:=c.ex.vw aT.b aT.p (Rat.mul_nonneg Rat.natCast_nonneg (Rat.le_of_lt (h_ aT.b e))) bj
 rw[c.e5 aT] at h
 rw[c.Wv];exact h
theorem Ww {f:cE} (aT:f.hH) {y:eZ} (bj:kt f y):(y.k≠2/\qN f.β f.p f.bd (fP f y)/\fP f y<cj f.β (f.an+f.p))\/(y.k=2/\fP f y=cj f.β (f.an+f.p)):=by
 by_cases h:y.k=2
 · exact .inr ⟨h,if_pos h⟩
 · obtain⟨ae,-,h2⟩:=Wu aT bj h
   exact .inl ⟨h,ae,h2⟩
end
section
def cW (β:Nat) (w:Rat) (e:Int):Nat:=if 0<=e then w.num.natAbs else w.num.natAbs*β^(-e).toNat
def b9 (β:Nat) (w:Rat) (e:Int):Nat:=if 0<=e then w.den*β^e.toNat else w.den
section
variable {β:Nat}
theorem zO (au:2<=β) (w:Rat) (e:Int):0<b9 β w e:=by
 unfold b9
 split
 · exact Nat.mul_pos w.den_pos (Nat.pow_pos (by omega))
 · exact w.den_pos
theorem size_eq (w:Rat):dZ w*(w.den:Rat)=(w.num.natAbs:Rat):=by
 have bw:(0:Rat)<(w.den:Rat):=by
  have:=Rat.natCast_lt_natCast.2 w.den_pos;exact this
 have h:w*(w.den:Rat)=(w.num:Rat):=by
  have ae:=Rat.num_divInt_den w
  rw[Rat.divInt_eq_div] at ae
  have h2:(((w.den:Nat):Int):Rat)=(w.den:Rat):=rfl
  rw[h2] at ae
  have aO:=Rat.div_mul_cancel (a:=(w.num:Rat)) (Rat.ne_of_gt bw)
  rwa [ae] at aO
 unfold dZ
 by_cases hw:w<0
 · rw[if_pos hw]
   have ae:w.num<0:=Int.not_le.1 fun h=>Rat.not_le.2 hw (Rat.num_nonneg.1 h)
   have aj:((w.num.natAbs:Nat):Int)= -w.num:=by omega
   have aq:((w.num.natAbs:Nat):Rat)=((w.num.natAbs:Int):Rat):=rfl
   rw[aq,aj,Rat.intCast_neg]
   grind
 · rw[if_neg hw]
   have ae:¬w.num<0:=Int.not_lt.2 (Rat.num_nonneg.2 (Rat.not_lt.1 hw))
   have aj:((w.num.natAbs:Nat):Int)=w.num:=by omega
   have aq:((w.num.natAbs:Nat):Rat)=((w.num.natAbs:Int):Rat):=rfl
   rw[aq,aj]
   exact h
theorem KQ (au:2<=β) (w:Rat) (e:Int):dZ w*(b9 β w e:Rat)=(cW β w e:Rat)*cj β e:=by
 have h:=size_eq w
 unfold b9 cW
 by_cases he:0<=e
 · rw[if_pos he,if_pos he,Rat.natCast_mul,<-kR,show ((e.toNat:Nat):Int)=e by omega,<-Rat.mul_assoc,h]
 · rw[if_neg he,if_neg he,Rat.natCast_mul,<-kR,Rat.mul_assoc,<-lx au,show (((-e).toNat:Nat):Int)+e=0 by omega,KD,Rat.mul_one,h]
theorem Wx (au:2<=β) (w:Rat) (e:Int) (p:Nat):cW β w e<b9 β w e*β^p↔dZ w<cj β (e+p):=by
 have h:=KQ au w e
 have bw:=zO au w e
 have lI:(0:Rat)<(b9 β w e:Rat):=by have:=Rat.natCast_lt_natCast.2 bw;exact this
 have aV:=h_ au e
 have aj:cj β (e+p)=cj β e*((β^p:Nat):Rat):=by rw[lx au,kR]
 rw[<-Rat.natCast_lt_natCast,Rat.natCast_mul,aj]
 generalize (cW β w e:Rat)=N at*
 generalize (b9 β w e:Rat)=D at*
 generalize ((β^p:Nat):Rat)=P at*
 generalize cj β e=B at*
 generalize dZ w=s at*
 constructor
 · intro ae
   have h2:=Rat.mul_lt_mul_of_pos_right ae aV
   rw[<-h] at h2
   rw[show D*P*B=B*P*D by grind] at h2
   exact (Rat.mul_lt_mul_right lI).1 h2
 · intro ae
   have h2:=Rat.mul_lt_mul_of_pos_right ae lI
   rw[h,show B*P*D=D*P*B by grind] at h2
   exact (Rat.mul_lt_mul_right aV).1 h2
theorem KR (au:2<=β) (w:Rat) (e:Int):e5 β (dZ w) e=cW β w e/b9 β w e/\rs β (dZ w) e*(b9 β w e:Rat)=((cW β w e%b9 β w e:Nat):Rat):=by
 have h:=KQ au w e
 have bw:=zO au w e
 have lI:(0:Rat)<(b9 β w e:Rat):=by have:=Rat.natCast_lt_natCast.2 bw;exact this
 have aV:=h_ au e
 have aj:cW β w e/b9 β w e*b9 β w e+cW β w e%b9 β w e=cW β w e:=by rw[Nat.mul_comm];exact Nat.div_add_mod _ _
 have aq:=Nat.mod_lt (cW β w e) bw
 generalize cW β w e/b9 β w e=q at*
 generalize bf:cW β w e%b9 β w e=r at*
 have aW:(q:Rat)*(b9 β w e:Rat)+(r:Rat)=(cW β w e:Rat):=by rw[<-aj,Rat.natCast_add,Rat.natCast_mul]
 have bW:(r:Rat)<(b9 β w e:Rat):=Rat.natCast_lt_natCast.2 aq
 have ea:(0:Rat)<=(r:Rat):=Rat.natCast_nonneg
 have bz:e5 β (dZ w) e=q:=by
  refine zH au ?_ ?_
  · refine KE lI ?_
    rw[h,<-aW]
    generalize (b9 β w e:Rat)=D at*
    have:0<=(r:Rat)*cj β e:=Rat.mul_nonneg ea (Rat.le_of_lt aV)
    grind
  · have:dZ w*(b9 β w e:Rat)<((q+1:Nat):Rat)*cj β e*(b9 β w e:Rat):=by
     rw[h,<-aW,Rat.natCast_add]
     generalize (b9 β w e:Rat)=D at*
     have cf:=Rat.mul_lt_mul_of_pos_right bW aV
     grind
    exact (Rat.mul_lt_mul_right lI).1 this
 refine⟨bz,?_⟩
 unfold rs
 rw[bz]
 have dS:dZ w/cj β e*(b9 β w e:Rat)=(cW β w e:Rat):=by
  have:dZ w/cj β e*(b9 β w e:Rat)=dZ w*(b9 β w e:Rat)/cj β e:=by
   rw[Rat.div_def,Rat.div_def];grind
  rw[this,h,Rat.mul_div_cancel (Rat.ne_of_gt aV)]
 rw[<-aW] at dS
 generalize dZ w/cj β e=x at*
 generalize (b9 β w e:Rat)=D at*
 grind
theorem Wy (au:2<=β) (w:Rat) (e:Int):gM (rs β (dZ w) e)=(if 2*(cW β w e%b9 β w e)<b9 β w e then -1 else if b9 β w e<2*(cW β w e%b9 β w e) then 1 else 0)/\(0<rs β (dZ w) e↔0<cW β w e%b9 β w e):=by
 obtain⟨-,h⟩:=KR au w e
 have bw:=zO au w e
 have lI:(0:Rat)<(b9 β w e:Rat):=by have:=Rat.natCast_lt_natCast.2 bw;exact this
 generalize cW β w e%b9 β w e=r at*
 generalize b9 β w e=D at*
 generalize rs β (dZ w) e=x at*
 have a1:2*x<1↔2*r<D:=by
  rw[<-Rat.natCast_lt_natCast,Rat.natCast_mul,<-h]
  constructor
  · intro ae;have:=Rat.mul_lt_mul_of_pos_right ae lI
    rw[Rat.one_mul,Rat.mul_assoc] at this;exact this
  · intro ae
    refine(Rat.mul_lt_mul_right lI).1 ?_
    rw[Rat.one_mul,Rat.mul_assoc];exact ae
 have cP:1<2*x↔D<2*r:=by
  rw[<-Rat.natCast_lt_natCast,Rat.natCast_mul,<-h]
  constructor
  · intro ae;have:=Rat.mul_lt_mul_of_pos_right ae lI
    rw[Rat.one_mul,Rat.mul_assoc] at this;exact this
  · intro ae
    refine(Rat.mul_lt_mul_right lI).1 ?_
    rw[Rat.one_mul,Rat.mul_assoc];exact ae
 have fV:0<x↔0<r:=by
  constructor
  · intro ae;have:=Rat.mul_pos ae lI
    rw[h] at this;exact Rat.natCast_lt_natCast.1 this
  · intro ae
    refine(Rat.mul_lt_mul_right lI).1 ?_
    rw[Rat.zero_mul,h];exact Rat.natCast_lt_natCast.2 ae
 refine⟨?_,fV⟩
 unfold gM
 simp only[a1,cP]
end
theorem cX.Wz {β p:Nat} {bd:Int} {s:Rat} {e:Int} (au:2<=β) (dL:cX β p bd s e) {k:Nat} (aP:s<cj β k):e<=max bd k:=by
 rcases dL.low with h|h
 · omega
 · have ae:=rS h aP
   by_cases h2:(k:Int)<=e - 1+p
   · exact absurd (n7 ae (qM au h2)) Rat.lt_irrefl
   · omega
theorem cX.stop {β p:Nat} {bd:Int} {s:Rat} {e c:Int} (au:2<=β) (dL:cX β p bd s e) (I:c<=e) (a6:bd<=c) (h:s<cj β (c+p)):c=e:=by
 rcases dL.low with ae|ae
 · omega
 · by_cases h2:c<=e - 1
   · exact absurd (n7 h (Rat.le_trans (qM au (by omega)) ae)) Rat.lt_irrefl
   · omega
theorem cX.go {β p:Nat} {bd:Int} {s:Rat} {e c:Int} (au:2<=β) (dL:cX β p bd s e) (h:¬s<cj β (c+p)):c<e:=by
 refine Int.not_le.1 fun h2=>h ?_
 exact n7 dL.up (qM au (by omega))
end
section
set_option maxHeartbeats 8000000
open Go Go.Eng Go.RowKit
abbrev d_ (f:cE):J:= .agg [bp f.β,bp f.p,.int .i64 f.bd,.int .i64 f.an]
abbrev gN (x:eZ):J:= .agg [bp x.k,.bool x.neg,aw x.m,.int .i64 x.e]
theorem fQ {f g:cE}:d_ f=d_ g↔f=g:=⟨fun h=>by
 obtain⟨a,b,c,d⟩:=f
 obtain⟨ep,gF,c',ob⟩:=g
 simp only[J.agg.injEq,List.cons.injEq,J.int.injEq,bI,true_and,and_true] at h
 obtain⟨ae,h2,aO,a2⟩:=h
 subst ae h2 aO a2;rfl,fun h=>by rw[h]⟩
theorem fR {f g:eZ}:gN f=gN g↔f=g:=⟨fun h=>by
 obtain⟨a,b,c,d⟩:=f
 obtain⟨ep,gF,c',ob⟩:=g
 simp only[J.agg.injEq,List.cons.injEq,J.int.injEq,J.bool.injEq,bT,bI,true_and,and_true] at h
 obtain⟨ae,h2,aO,a2⟩:=h
 subst ae h2 aO a2;rfl,fun h=>by rw[h]⟩
structure fS (f:cE):Prop where
 b:f.β=2\/f.β=10
 dO:1<=f.p
 e2:f.p<=20
 ck: -40<=f.bd
 dD:f.bd<=20
 w3:f.bd<=f.an
 h2:f.an<=300
theorem fS.ok {f:cE} (h:fS f):f.hH:=⟨by have:=h.b;omega,h.dO,h.w3⟩
theorem mn {b n:Nat} (au:b<=16):(ai (b^n)).length<=n/8+1:=by
 refine c8.2 (Nat.lt_of_le_of_lt (Nat.pow_le_pow_left au n) ?_)
 have e:aE (n/8+1)=2^(32*(n/8+1)):=ll _
 rw[e,show (16:Nat)=2^4 from rfl,<-Nat.pow_mul]
 exact Nat.pow_lt_pow_right (by decide) (by omega)
theorem kS (n:Nat):bS (n:Int)=(ai n).length:=by rw[bS,Int.natAbs_natCast]
theorem Dh {x y:Int} (bj:y≠0):eV (Rat.divInt x y)<=max (bS x) (bS y):=by
 obtain⟨ae,h2⟩:=CU (n:=x) bj
 have aj:∀(a:Int) (g:Nat),bS (a/(g:Int))<=bS a:=fun a g=>f_ (Int.natAbs_ediv_le_natAbs _ _)
 have aO:bS (Rat.divInt x y).num<=bS x:=by
  rw[ae];split
  · rw[Rv];exact aj _ _
  · exact aj _ _
 have a2:(ai (Rat.divInt x y).den).length<=bS y:=by rw[h2];exact aj _ _
 simp only[eV]
 omega
theorem WA (a b:Rat):eV (a*b)<=eV a+eV b:=by
 have h:=Dh (x:=a.num*b.num) (y:=(a.den:Int)*b.den) (Int.mul_ne_zero (rI a) (rI b))
 rw[UA] at h
 have ck:=pc a.num b.num
 have dD:=pc a.den b.den
 rw[pY,pY] at dD
 simp only[eV] at*
 omega
theorem KS (z:Int):eV (z:Rat)<=max (bS z) 1:=by
 have h:(ai 1).length<=1:=c8.2 (by rw[pa];decide)
 simp only[eV,Rat.num_intCast,Rat.den_intCast]
 omega
theorem Di {b:Nat} {e:Int} (h:0<=e):cj b e=(((b^e.toNat:Nat):Int):Rat):=by
 have:=kR (β:=b) e.toNat
 rw[show ((e.toNat:Nat):Int)=e by omega] at this
 exact this
theorem KT {b:Nat} {e:Int} (h:e<0):cj b e=((((b^(-e).toNat:Nat):Int):Rat))⁻¹ :=by
 rw[<-Di (by omega),<-Wc,Int.neg_neg]
theorem WB (n:Nat):eV ((n:Int):Rat)<=max (ai n).length 1:=by
 have:=KS (n:Int);rwa [kS] at this
theorem WC {b:Nat} (au:2<=b) (KU:b<=16) (e:Int):eV (cj b e)<=e.natAbs/8+1:=by
 by_cases h:0<=e
 · rw[Di h]
   have ae:=WB (b^e.toNat)
   have h2:=mn (b:=b) (n:=e.toNat) KU
   rw[show e.toNat=e.natAbs by omega] at*
   omega
 · rw[KT (by omega)]
   have bc:b^(-e).toNat≠0:=Nat.ne_of_gt (Nat.pow_pos (by omega))
   have aj:((((b^(-e).toNat:Nat):Int):Rat))⁻¹ =Rat.divInt 1 ((b^(-e).toNat:Nat):Int):=by
    rw[Rat.divInt_eq_div,Rat.div_def]
    exact (Rat.one_mul _).symm
   rw[aj]
   have ae:=Dh (x:=1) (y:=((b^(-e).toNat:Nat):Int)) (by omega)
   have h2:=mn (b:=b) (n:=(-e).toNat) KU
   have aO:bS 1<=1:=c8.2 (by rw[pa];decide)
   rw[kS] at ae
   rw[show (-e).toNat=e.natAbs by omega] at*
   omega
theorem WD (neg:Bool) (m:Nat):((db neg m:Int):Rat)=if neg then -(m:Rat) else (m:Rat):=by
 cases neg
 · rfl
 · show (((-(m:Int)):Int):Rat)= -(m:Rat)
   rw[Rat.intCast_neg];rfl
theorem Dj {f:cE} {x:eZ} (aI:x.k≠2):dR f x=((db x.neg x.m:Int):Rat)*cj f.β x.e:=by
 unfold dR
 rw[KN aI,WD]
 split
 · rw[Rat.neg_mul]
 · rfl
theorem WE {f:cE} {x:eZ} (aI:x.k≠2) (h:0<=x.e):Rat.divInt (db x.neg x.m*((f.β^x.e.toNat:Nat):Int)) 1=dR f x:=by
 rw[Dj aI,Di h,<-Rat.intCast_mul,Rat.divInt_eq_div]
 show _/(1:Rat)=_
 grind
theorem WG {f:cE} {x:eZ} (aI:x.k≠2) (h:x.e<0):Rat.divInt (db x.neg x.m) ((f.β^(-x.e).toNat:Nat):Int)=dR f x:=by
 rw[Dj aI,KT h,Rat.divInt_eq_div,Rat.div_def]
end
section
set_option maxHeartbeats 8000000
open Go Go.Eng Go.RowKit
attribute [local simp] bH.m bH.o bH.n bH.g hy fh dG dr dJ evalOp.eq_1 evalOp.eq_2 evalOp.eq_3 evalOp.eq_4 evalOp.eq_5 evalOp.eq_6 evalOp.eq_7 evalOp.eq_8 evalOp.eq_9 evalOp.eq_10 evalOp.eq_11 evalOp.eq_12 evalOp.eq_13 evalOp.eq_14 evalOp.eq_15 evalOp.eq_16 evalOp.eq_17 evalOp.eq_18 evalOp.eq_19 evalOp.eq_20 evalOp.eq_21 evalOp.eq_22 evalOp.eq_23 evalOp.eq_24 evalOp.eq_25 evalOp.eq_27 evalOp.eq_28 evalOp.eq_29 kl bn.cu dq aG aF.new a8 J.cells J.dp J.e7 J.ft il iq im ir iv iu jK jL jM gY gZ cut partOf bound elems jO jP jQ jR jS jT jU jV jW jX jY jZ h1 j0 j1 j2 j3 j4 j5 j6 j7 j8 j9 j_ j' ka kb kc kd ke kf kg kh ki kj kk ff e8 e1 gi iw hA aF.close aF.set h3 km kn ko jN hB gD gq gJ gr hX gu gK hY hZ h0 gf gg gh gd ix bI hU iy hV iz iA fY iB fw iC iD iE gT jJ iF iG iH iI iJ iK iL iM iN iO iP iQ iR iS iT iU iV iW iX hf iY iZ i_ i' ja jb jc jd je jf jg jh ji jj jk
attribute [local simp high] jG jH jI jl jm jn jo jq jr js jt ju jv jw jx jy jz jA jB jC jD jE jF
attribute [local simp] aS List.getElem?_cons_zero List.getElem?_cons_succ fa eh gl Nat.mod_eq_of_lt kH kI kJ kK gL kL kM kN
section
attribute [local irreducible] cQ
attribute [local simp] ek eL du
noncomputable def po:FuncId->Option (List J->Option J):=da [(61,vt),(69,vu),(71,pZ),(63,De),(86,rP),(111,pT),(91,rN),(85,rO),(87,ts),(137,vp)]
theorem WH:∀f T,po f=some T->bl Tryz.prog G f T:=dc (by simp only[List.forall_mem_cons];exact ⟨Kz,KA,zE,V9,C_,yU,C6,C8,C9,Ks,fun _ h=>absurd h (by simp)⟩)
theorem WI:po 61=some vt:=rfl
theorem WJ:po 69=some vu:=rfl
theorem WK:po 71=some pZ:=rfl
theorem WL:po 63=some De:=rfl
theorem WM:po 86=some rP:=rfl
theorem WN:po 111=some pT:=rfl
theorem WO:po 91=some rN:=rfl
theorem WQ:po 85=some rO:=rfl
theorem WR:po 87=some ts:=rfl
theorem WS:po 137=some vp:=rfl
attribute [local simp] WI WJ WK WL WM WN WO WQ WR WS
noncomputable def xt:List J->Option J:=cl (fun z:Rat × Rat=>eV z.1<=100000/\eV z.2<=100000) (fun z=>[qr z.1,qr z.2]) (fun z=> .int .i64 (fb z.1 z.2))
theorem WT (z:Rat × Rat) (h:eV z.1<=100000/\eV z.2<=100000) {args:List J} (he:args.map J.loose= [qr z.1,qr z.2]):xt args=some (.int .i64 (fb z.1 z.2)):=cI (fun z w h=>by first|(simp only[List.cons.injEq,J.int.injEq,J.bool.injEq,J.sl.injEq,bT,bU,bY,bZ,bX,bG,bL,bV,bI,true_and,and_true] at h;simp[h];done)|(simp only[J.agg.injEq,List.cons.injEq,J.int.injEq,J.bool.injEq,J.sl.injEq,bT,bU,bY,bZ,bX,bG,bL,bV,bI,true_and,and_true] at h;simp[h])) z h he
theorem WU:bl Tryz.prog G 32 xt:=by
 refine cJ mixed WH O9 fun z aV=>?_
 obtain⟨a,b⟩:=z
 simp only at aV|-
 obtain⟨ae,h2⟩:=zF aV.1
 obtain⟨aO,a2⟩:=zF aV.2
 have ck:=pc a.num b.den
 have dD:=pc b.num a.den
 have bK:=rR a.den trivial (args:=[aw a.den]) (by simp)
 have cr:=rR b.den trivial (args:=[aw b.den]) (by simp)
 have t1:=xl (a.num,(b.den:Int)) ⟨by simp only;omega,by simp only;omega⟩ (args:=[a7 a.num,a7 (b.den:Int)]) (by simp)
 have t2:=xl (b.num,(a.den:Int)) ⟨by simp only;omega,by simp only;omega⟩ (args:=[a7 b.num,a7 (a.den:Int)]) (by simp)
 have t3:=C7 (a.num*b.den,b.num*a.den) ⟨by simp only;omega,by simp only;omega⟩ (args:=[a7 (a.num*b.den),a7 (b.num*a.den)]) (by simp)
 simp only[Kp] at t1 t2 t3
 generalize a.num*(b.den:Int)=x at*
 generalize b.num*(a.den:Int)=y at*
 generalize fb a b=c at*
 generalize (a.den:Int)=c6 at*
 generalize (b.den:Int)=CZ at*
 unfold i32
 refine al [0,1,2,3,4] fun F=>?_
 simp only[ak]
 intro f0 f1 f2 f3 f4
 simp[a8] at f0 f1 f2 f3 f4
 repeat' (first
  | refine ax ?_
  | ((fail_if_success (refine aQ ?_));(fail_if_success (refine aR ?_));refine aL ?_)
  | ((first|(refine az aM ?_;simp(disch:=omega) [bK,cr,t1,t2,t3,f0,f1,f2,f3,f4];(try(refine⟨by first|decide|rfl,?_⟩)))|(refine aK ?_;simp(disch:=omega) [bK,cr,t1,t2,t3,f0,f1,f2,f3,f4]));(try(refine al [0,1,2,3,4] ?_;intro F;simp only[ak];intro U ab aa af ad;simp(disch:=omega) [bK,cr,t1,t2,t3,f0,f1,f2,f3,f4] at U ab aa af ad;clear f0 f1 f2 f3 f4;have f0:=U;have f1:=ab;have f2:=aa;have f3:=af;have f4:=ad;clear U ab aa af ad)))
  | (refine aJ _ (by simp(disch:=omega) [bK,cr,t1,t2,t3,f0,f1,f2,f3,f4];rfl) (fun I=>?_) (fun I=>?_)<;>first|(exfalso;simp(disch:=omega) [bK,cr,t1,t2,t3] at I;done)|(exfalso;simp at I;omega)|(simp at I))
  | ((first|refine aH ?_|refine aN ?_);simp(disch:=omega) [bK,cr,t1,t2,t3,f0,f1,f2,f3,f4]))
end
end
section
set_option maxHeartbeats 8000000
open Go Go.Eng Go.RowKit
theorem WV {n:Nat} (h:(ai n).length<=65536):nv (ai n)=true:=by
 unfold nv
 by_cases aS:n=0
 · subst aS;simp[eX]
 · refine decide_eq_true (.inr ⟨h,?_⟩)
   exact BG aS
theorem Dk {f:cE} (aT:fS f) {m:Nat} (h:m<f.β^f.p):(ai m).length<=3:=by
 have ae:=f_ (Nat.le_of_lt h)
 have h2:=mn (b:=f.β) (n:=f.p) (by have:=aT.b;omega)
 have:=aT.e2
 omega
def xu (r p bd an:Int):Bool:=(decide (r=2)||decide (r=10))&&(decide (1<=p/\p<=4096)&&(decide (bd<=an)&&(decide (-100000<=bd/\bd<=100000)&&decide (-100000<=an/\an<=100000))))
theorem fS.right {f:cE} (h:fS f):xu f.β f.p f.bd f.an=true:=by
 obtain⟨ae,h2,aO,a2,cf,dS,lf⟩:=h
 unfold xu
 simp only[Bool.and_eq_true,Bool.or_eq_true,decide_eq_true_eq]
 omega
end
section
set_option maxHeartbeats 8000000
open Go Go.Eng Go.RowKit
attribute [local simp] bH.m bH.o bH.n bH.g hy fh dG dr dJ evalOp.eq_1 evalOp.eq_2 evalOp.eq_3 evalOp.eq_4 evalOp.eq_5 evalOp.eq_6 evalOp.eq_7 evalOp.eq_8 evalOp.eq_9 evalOp.eq_10 evalOp.eq_11 evalOp.eq_12 evalOp.eq_13 evalOp.eq_14 evalOp.eq_15 evalOp.eq_16 evalOp.eq_17 evalOp.eq_18 evalOp.eq_19 evalOp.eq_20 evalOp.eq_21 evalOp.eq_22 evalOp.eq_23 evalOp.eq_24 evalOp.eq_25 evalOp.eq_27 evalOp.eq_28 evalOp.eq_29 kl bn.cu dq aG aF.new a8 J.cells J.dp J.e7 J.ft il iq im ir iv iu jK jL jM gY gZ cut partOf bound elems jO jP jQ jR jS jT jU jV jW jX jY jZ h1 j0 j1 j2 j3 j4 j5 j6 j7 j8 j9 j_ j' ka kb kc kd ke kf kg kh ki kj kk ff e8 e1 gi iw hA aF.close aF.set h3 km kn ko jN hB gD gq gJ gr hX gu gK hY hZ h0 gf gg gh gd ix bI hU iy hV iz iA fY iB fw iC iD iE gT jJ iF iG iH iI iJ iK iL iM iN iO iP iQ iR iS iT iU iV iW iX hf iY iZ i_ i' ja jb jc jd je jf jg jh ji jj jk
attribute [local simp high] jG jH jI jl jm jn jo jq jr js jt ju jv jw jx jy jz jA jB jC jD jE jF
attribute [local simp] aS List.getElem?_cons_zero List.getElem?_cons_succ fa eh gl Nat.mod_eq_of_lt kH kI kJ kK gL kL kM kN
section
attribute [local irreducible] cQ
attribute [local simp] ek eL du
noncomputable def zP:FuncId->Option (List J->Option J):=da [(51,nD),(93,lY),(94,uV)]
theorem WW:∀f T,zP f=some T->bl Tryz.prog G f T:=dc (by simp only[List.forall_mem_cons];exact ⟨wZ,wU,Jx,fun _ h=>absurd h (by simp)⟩)
theorem WX:zP 51=some nD:=rfl
theorem WY:zP 93=some lY:=rfl
theorem WZ:zP 94=some uV:=rfl
attribute [local simp] WX WY WZ
noncomputable def ng:List J->Option J:=cl (fun z:cE × Nat=>(z.1.β=2\/z.1.β=10)/\z.2<=500) (fun z=>[d_ z.1,bp z.2]) (fun z=>aw (z.1.β^z.2))
theorem rV (z:cE × Nat) (h:(z.1.β=2\/z.1.β=10)/\z.2<=500) {args:List J} (he:args.map J.loose= [d_ z.1,bp z.2]):ng args=some (aw (z.1.β^z.2)):=cI (fun z w h=>by first|(simp only[fR,fQ,List.cons.injEq,J.int.injEq,J.bool.injEq,J.sl.injEq,bT,bU,bY,bZ,bX,bG,bL,bV,bI,true_and,and_true] at h;simp[h];done)|(simp only[J.agg.injEq,fR,fQ,List.cons.injEq,J.int.injEq,J.bool.injEq,J.sl.injEq,bT,bU,bY,bZ,bX,bG,bL,bV,bI,true_and,and_true] at h;simp[h])) z h he
theorem vz:bl Tryz.prog G 46 ng:=by
 refine cJ mixed WW Gc fun z aV=>?_
 obtain⟨⟨b,p,bd,an⟩,n⟩:=z
 obtain⟨au,aC⟩:=aV
 simp only at au aC|-
 have a6:=mn (b:=b) (n:=n) (by omega)
 unfold i46
 rcases au with rfl|rfl
 · have t1:=wY 1 (by decide) (args:=[e3 1]) (by simp)
   have t2:=rq (a:=1) (n:=n) (e:=false) (by rw[lX];decide) (by omega)
   rw[Nat.one_mul] at t2
   generalize 2^n=w at*
   refine al [0,1,2,4,7] fun F=>?_
   simp only[ak]
   intro f0 f1 f2 f4 f7
   simp[a8] at f0 f1 f2 f4 f7
   repeat' (first
    | refine ax ?_
    | ((fail_if_success (refine aQ ?_));(fail_if_success (refine aR ?_));refine aL ?_)
    | ((first|(refine az aM ?_;simp(disch:=omega) [t1,t2,f0,f1,f2,f4,f7];(try(refine⟨by first|decide|rfl,?_⟩)))|(refine aK ?_;simp(disch:=omega) [t1,t2,f0,f1,f2,f4,f7]));(try(refine al [0,1,2,4,7] ?_;intro F;simp only[ak];intro U ab aa ad ar;simp(disch:=omega) [t1,t2,f0,f1,f2,f4,f7] at U ab aa ad ar;clear f0 f1 f2 f4 f7;have f0:=U;have f1:=ab;have f2:=aa;have f4:=ad;have f7:=ar;clear U ab aa ad ar)))
    | (refine aJ _ (by simp(disch:=omega) [t1,t2,f0,f1,f2,f4,f7];rfl) (fun I=>?_) (fun I=>?_)<;>first|(exfalso;simp(disch:=omega) [t1,t2] at I;done)|(exfalso;simp at I;omega)|(simp at I))
    | ((first|refine aH ?_|refine aN ?_);simp(disch:=omega) [t1,t2,f0,f1,f2,f4,f7]))
 · have t1:=wY 10 (by decide) (args:=[e3 10]) (by simp)
   have aav:(ai 10).length<=1:=c8.2 (by rw[pa];decide)
   have t2:=SJ (10,n) ⟨by simp only;omega,by simp only;omega,by simp only;omega⟩ (args:=[aw 10,bp n]) (by simp)
   simp only at t2
   generalize 10^n=w at*
   refine al [0,1,2,4,7] fun F=>?_
   simp only[ak]
   intro f0 f1 f2 f4 f7
   simp[a8] at f0 f1 f2 f4 f7
   repeat' (first
    | refine ax ?_
    | ((fail_if_success (refine aQ ?_));(fail_if_success (refine aR ?_));refine aL ?_)
    | ((first|(refine az aM ?_;simp(disch:=omega) [t1,t2,f0,f1,f2,f4,f7];(try(refine⟨by first|decide|rfl,?_⟩)))|(refine aK ?_;simp(disch:=omega) [t1,t2,f0,f1,f2,f4,f7]));(try(refine al [0,1,2,4,7] ?_;intro F;simp only[ak];intro U ab aa ad ar;simp(disch:=omega) [t1,t2,f0,f1,f2,f4,f7] at U ab aa ad ar;clear f0 f1 f2 f4 f7;have f0:=U;have f1:=ab;have f2:=aa;have f4:=ad;have f7:=ar;clear U ab aa ad ar)))
    | (refine aJ _ (by simp(disch:=omega) [t1,t2,f0,f1,f2,f4,f7];rfl) (fun I=>?_) (fun I=>?_)<;>first|(exfalso;simp(disch:=omega) [t1,t2] at I;done)|(exfalso;simp at I;omega)|(simp at I))
    | ((first|refine aH ?_|refine aN ?_);simp(disch:=omega) [t1,t2,f0,f1,f2,f4,f7]))
noncomputable def KV:FuncId->Option (List J->Option J):=da [(97,nE)]
theorem W0:∀f T,KV f=some T->bl Tryz.prog G f T:=dc (by simp only[List.forall_mem_cons];exact ⟨w0,fun _ h=>absurd h (by simp)⟩)
theorem W1:KV 97=some nE:=rfl
attribute [local simp] W1
noncomputable def rW:List J->Option J:=cl (fun z:Bool × Nat=>(ai z.2).length<=1000000) (fun z=>[.bool z.1,aw z.2]) (fun z=>a7 (db z.1 z.2))
theorem tv (z:Bool × Nat) (h:(ai z.2).length<=1000000) {args:List J} (he:args.map J.loose= [.bool z.1,aw z.2]):rW args=some (a7 (db z.1 z.2)):=cI (fun z w h=>by first|(simp only[fR,fQ,List.cons.injEq,J.int.injEq,J.bool.injEq,J.sl.injEq,bT,bU,bY,bZ,bX,bG,bL,bV,bI,true_and,and_true] at h;simp[h];done)|(simp only[J.agg.injEq,fR,fQ,List.cons.injEq,J.int.injEq,J.bool.injEq,J.sl.injEq,bT,bU,bY,bZ,bX,bG,bL,bV,bI,true_and,and_true] at h;simp[h])) z h he
theorem Dl:bl Tryz.prog G 50 rW:=by
 refine cJ mixed W0 Ge fun z aV=>?_
 obtain⟨b,n⟩:=z
 simp only at aV|-
 have t1:=IU (b,ai n) ⟨dW n,by simp only;omega⟩ (args:=[.bool b,aw n]) (by simp)
 simp only[du] at t1
 generalize db b n=w at*
 unfold i50
 refine al [0,1,4] fun F=>?_
 simp only[ak]
 intro f0 f1 f4
 simp[a8] at f0 f1 f4
 repeat' (first
  | refine ax ?_
  | ((fail_if_success (refine aQ ?_));(fail_if_success (refine aR ?_));refine aL ?_)
  | ((first|(refine az aM ?_;simp(disch:=omega) [t1,f0,f1,f4];(try(refine⟨by first|decide|rfl,?_⟩)))|(refine aK ?_;simp(disch:=omega) [t1,f0,f1,f4]));(try(refine al [0,1,4] ?_;intro F;simp only[ak];intro U ab ad;simp(disch:=omega) [t1,f0,f1,f4] at U ab ad;clear f0 f1 f4;have f0:=U;have f1:=ab;have f4:=ad;clear U ab ad)))
  | (refine aJ _ (by simp(disch:=omega) [t1,f0,f1,f4];rfl) (fun I=>?_) (fun I=>?_)<;>first|(exfalso;simp(disch:=omega) [t1] at I;done)|(exfalso;simp at I;omega)|(simp at I))
  | ((first|refine aH ?_|refine aN ?_);simp(disch:=omega) [t1,f0,f1,f4]))
noncomputable def W2:FuncId->Option (List J->Option J):=da []
theorem W3:∀f T,W2 f=some T->bl Tryz.prog G f T:=dc (by simp)
noncomputable def zQ:List J->Option J:=cl (fun z:Int × Int × Int=>True) (fun z=>[.int .i64 z.1,.int .i64 z.2.1,.int .i64 z.2.2]) (fun z=> .bool (decide (z.2.1<=z.1/\z.1<=z.2.2)))
theorem Dm (z:Int × Int × Int) (h:True) {args:List J} (he:args.map J.loose= [.int .i64 z.1,.int .i64 z.2.1,.int .i64 z.2.2]):zQ args=some (.bool (decide (z.2.1<=z.1/\z.1<=z.2.2))):=cI (fun z w h=>by first|(simp only[fR,fQ,List.cons.injEq,J.int.injEq,J.bool.injEq,J.sl.injEq,bT,bU,bY,bZ,bX,bG,bL,bV,bI,true_and,and_true] at h;simp[h];done)|(simp only[J.agg.injEq,fR,fQ,List.cons.injEq,J.int.injEq,J.bool.injEq,J.sl.injEq,bT,bU,bY,bZ,bX,bG,bL,bV,bI,true_and,and_true] at h;simp[h])) z h he
theorem W4:bl Tryz.prog G 43 zQ:=by
 refine cJ mixed W3 F_ fun z aV=>?_
 obtain⟨a,b,c⟩:=z
 simp only
 unfold i43
 by_cases ae:b<=a
 · have aj:(b<=a)=True:=eq_true ae
   by_cases h2:a<=c
   · rw[decide_eq_true ⟨ae,h2⟩]
     have aq:(a<=c)=True:=eq_true h2
     refine al [0,1,2,6] fun F=>?_
     simp only[ak]
     intro f0 f1 f2 f6
     simp[a8] at f0 f1 f2 f6
     repeat' (first
      | refine ax ?_
      | ((fail_if_success (refine aQ ?_));(fail_if_success (refine aR ?_));refine aL ?_)
      | ((first|(refine az aM ?_;simp(disch:=omega) [aj,aq,f0,f1,f2,f6];(try(refine⟨by first|decide|rfl,?_⟩)))|(refine aK ?_;simp(disch:=omega) [aj,aq,f0,f1,f2,f6]));(try(refine al [0,1,2,6] ?_;intro F;simp only[ak];intro U ab aa ag;simp(disch:=omega) [aj,aq,f0,f1,f2,f6] at U ab aa ag;clear f0 f1 f2 f6;have f0:=U;have f1:=ab;have f2:=aa;have f6:=ag;clear U ab aa ag)))
      | (refine aJ _ (by simp(disch:=omega) [aj,aq,f0,f1,f2,f6];rfl) (fun I=>?_) (fun I=>?_)<;>first|(exfalso;simp(disch:=omega) [aj,aq] at I;done)|(exfalso;simp at I;omega)|(simp at I))
      | ((first|refine aH ?_|refine aN ?_);simp(disch:=omega) [aj,aq,f0,f1,f2,f6]))
   · rw[decide_eq_false (fun h=>h2 h.2)]
     have aq:(a<=c)=False:=eq_false h2
     refine al [0,1,2,6] fun F=>?_
     simp only[ak]
     intro f0 f1 f2 f6
     simp[a8] at f0 f1 f2 f6
     repeat' (first
      | refine ax ?_
      | ((fail_if_success (refine aQ ?_));(fail_if_success (refine aR ?_));refine aL ?_)
      | ((first|(refine az aM ?_;simp(disch:=omega) [aj,aq,f0,f1,f2,f6];(try(refine⟨by first|decide|rfl,?_⟩)))|(refine aK ?_;simp(disch:=omega) [aj,aq,f0,f1,f2,f6]));(try(refine al [0,1,2,6] ?_;intro F;simp only[ak];intro U ab aa ag;simp(disch:=omega) [aj,aq,f0,f1,f2,f6] at U ab aa ag;clear f0 f1 f2 f6;have f0:=U;have f1:=ab;have f2:=aa;have f6:=ag;clear U ab aa ag)))
      | (refine aJ _ (by simp(disch:=omega) [aj,aq,f0,f1,f2,f6];rfl) (fun I=>?_) (fun I=>?_)<;>first|(exfalso;simp(disch:=omega) [aj,aq] at I;done)|(exfalso;simp at I;omega)|(simp at I))
      | ((first|refine aH ?_|refine aN ?_);simp(disch:=omega) [aj,aq,f0,f1,f2,f6]))
 · rw[decide_eq_false (fun h=>ae h.1)]
   have aj:(b<=a)=False:=eq_false ae
   refine al [0,1,2,6] fun F=>?_
   simp only[ak]
   intro f0 f1 f2 f6
   simp[a8] at f0 f1 f2 f6
   repeat' (first
    | refine ax ?_
    | ((fail_if_success (refine aQ ?_));(fail_if_success (refine aR ?_));refine aL ?_)
    | ((first|(refine az aM ?_;simp(disch:=omega) [aj,f0,f1,f2,f6];(try(refine⟨by first|decide|rfl,?_⟩)))|(refine aK ?_;simp(disch:=omega) [aj,f0,f1,f2,f6]));(try(refine al [0,1,2,6] ?_;intro F;simp only[ak];intro U ab aa ag;simp(disch:=omega) [aj,f0,f1,f2,f6] at U ab aa ag;clear f0 f1 f2 f6;have f0:=U;have f1:=ab;have f2:=aa;have f6:=ag;clear U ab aa ag)))
    | (refine aJ _ (by simp(disch:=omega) [aj,f0,f1,f2,f6];rfl) (fun I=>?_) (fun I=>?_)<;>first|(exfalso;simp(disch:=omega) [aj] at I;done)|(exfalso;simp at I;omega)|(simp at I))
    | ((first|refine aH ?_|refine aN ?_);simp(disch:=omega) [aj,f0,f1,f2,f6]))
noncomputable def KW:FuncId->Option (List J->Option J):=da [(43,zQ)]
theorem W5:∀f T,KW f=some T->bl Tryz.prog G f T:=dc (by simp only[List.forall_mem_cons];exact ⟨W4,fun _ h=>absurd h (by simp)⟩)
theorem W6:KW 43=some zQ:=rfl
attribute [local simp] W6
noncomputable def tw:List J->Option J:=cl (fun z:Int × Int × Int × Int=>True) (fun z=>[.agg [.int .i64 z.1,.int .i64 z.2.1,.int .i64 z.2.2.1,.int .i64 z.2.2.2]]) (fun z=> .bool (xu z.1 z.2.1 z.2.2.1 z.2.2.2))
theorem W7 (z:Int × Int × Int × Int) (h:True) {args:List J} (he:args.map J.loose= [.agg [.int .i64 z.1,.int .i64 z.2.1,.int .i64 z.2.2.1,.int .i64 z.2.2.2]]):tw args=some (.bool (xu z.1 z.2.1 z.2.2.1 z.2.2.2)):=cI (fun z w h=>by first|(simp only[fR,fQ,List.cons.injEq,J.int.injEq,J.bool.injEq,J.sl.injEq,bT,bU,bY,bZ,bX,bG,bL,bV,bI,true_and,and_true] at h;simp[h];done)|(simp only[J.agg.injEq,fR,fQ,List.cons.injEq,J.int.injEq,J.bool.injEq,J.sl.injEq,bT,bU,bY,bZ,bX,bG,bL,bV,bI,true_and,and_true] at h;simp[h])) z h he
theorem KX:bl Tryz.prog G 13 tw:=by
 refine cJ mixed W5 F4 fun z aV=>?_
 obtain⟨r,p,bd,an⟩:=z
 simp only[xu]
 have dA:=Dm (p,1,4096) trivial (args:=[.int .i64 p,.int .i64 (Z 1),.int .i64 (Z 4096)]) rfl
 have gm:=Dm (bd,-100000,100000) trivial (args:=[.int .i64 bd,.int .i64 (-100000),.int .i64 (Z 100000)]) rfl
 have kr:=Dm (an,-100000,100000) trivial (args:=[.int .i64 an,.int .i64 (-100000),.int .i64 (Z 100000)]) rfl
 simp only at dA gm kr
 generalize decide (1<=p/\p<=4096)=yQ at*
 generalize decide (-100000<=bd/\bd<=100000)=dv at*
 generalize decide (-100000<=an/\an<=100000)=aaw at*
 have two:r=2\/r=10\/r≠2/\r≠10:=by omega
 unfold i13
 rcases two with h|h|⟨ae,h2⟩
 · have aj:(r == Z 2)=true:=by rw[h];rfl
   rw[decide_eq_true h,Bool.true_or,Bool.true_and]
   clear h
   cases yQ
   · skip
     refine al [0,1,2,3] fun F=>?_
     simp only[ak]
     intro f0 f1 f2 f3
     simp[a8] at f0 f1 f2 f3
     repeat' (first
      | refine ax ?_
      | ((fail_if_success (refine aQ ?_));(fail_if_success (refine aR ?_));refine aL ?_)
      | ((first|(refine az aM ?_;simp(disch:=omega) [aj,dA,f0,f1,f2,f3];(try(refine⟨by first|decide|rfl,?_⟩)))|(refine aK ?_;simp(disch:=omega) [aj,dA,f0,f1,f2,f3]));(try(refine al [0,1,2,3] ?_;intro F;simp only[ak];intro U ab aa af;simp(disch:=omega) [aj,dA,f0,f1,f2,f3] at U ab aa af;clear f0 f1 f2 f3;have f0:=U;have f1:=ab;have f2:=aa;have f3:=af;clear U ab aa af)))
      | (refine aJ _ (by simp(disch:=omega) [aj,dA,f0,f1,f2,f3];rfl) (fun I=>?_) (fun I=>?_)<;>first|(exfalso;simp(disch:=omega) [aj,dA] at I;done)|(exfalso;simp at I;omega)|(simp at I))
      | ((first|refine aH ?_|refine aN ?_);simp(disch:=omega) [aj,dA,f0,f1,f2,f3]))
   · cases a6:decide (bd<=an)
     · have aq:(bd<=an)=False:=eq_false (of_decide_eq_false a6)
       refine al [0,1,2,3] fun F=>?_
       simp only[ak]
       intro f0 f1 f2 f3
       simp[a8] at f0 f1 f2 f3
       repeat' (first
        | refine ax ?_
        | ((fail_if_success (refine aQ ?_));(fail_if_success (refine aR ?_));refine aL ?_)
        | ((first|(refine az aM ?_;simp(disch:=omega) [aj,dA,aq,f0,f1,f2,f3];(try(refine⟨by first|decide|rfl,?_⟩)))|(refine aK ?_;simp(disch:=omega) [aj,dA,aq,f0,f1,f2,f3]));(try(refine al [0,1,2,3] ?_;intro F;simp only[ak];intro U ab aa af;simp(disch:=omega) [aj,dA,aq,f0,f1,f2,f3] at U ab aa af;clear f0 f1 f2 f3;have f0:=U;have f1:=ab;have f2:=aa;have f3:=af;clear U ab aa af)))
        | (refine aJ _ (by simp(disch:=omega) [aj,dA,aq,f0,f1,f2,f3];rfl) (fun I=>?_) (fun I=>?_)<;>first|(exfalso;simp(disch:=omega) [aj,dA,aq] at I;done)|(exfalso;simp at I;omega)|(simp at I))
        | ((first|refine aH ?_|refine aN ?_);simp(disch:=omega) [aj,dA,aq,f0,f1,f2,f3]))
     · have aq:(bd<=an)=True:=eq_true (of_decide_eq_true a6)
       cases dv
       · skip
         refine al [0,1,2,3] fun F=>?_
         simp only[ak]
         intro f0 f1 f2 f3
         simp[a8] at f0 f1 f2 f3
         repeat' (first
          | refine ax ?_
          | ((fail_if_success (refine aQ ?_));(fail_if_success (refine aR ?_));refine aL ?_)
          | ((first|(refine az aM ?_;simp(disch:=omega) [aj,dA,aq,gm,f0,f1,f2,f3];(try(refine⟨by first|decide|rfl,?_⟩)))|(refine aK ?_;simp(disch:=omega) [aj,dA,aq,gm,f0,f1,f2,f3]));(try(refine al [0,1,2,3] ?_;intro F;simp only[ak];intro U ab aa af;simp(disch:=omega) [aj,dA,aq,gm,f0,f1,f2,f3] at U ab aa af;clear f0 f1 f2 f3;have f0:=U;have f1:=ab;have f2:=aa;have f3:=af;clear U ab aa af)))
          | (refine aJ _ (by simp(disch:=omega) [aj,dA,aq,gm,f0,f1,f2,f3];rfl) (fun I=>?_) (fun I=>?_)<;>first|(exfalso;simp(disch:=omega) [aj,dA,aq,gm] at I;done)|(exfalso;simp at I;omega)|(simp at I))
          | ((first|refine aH ?_|refine aN ?_);simp(disch:=omega) [aj,dA,aq,gm,f0,f1,f2,f3]))
       · skip
         refine al [0,1,2,3] fun F=>?_
         simp only[ak]
         intro f0 f1 f2 f3
         simp[a8] at f0 f1 f2 f3
         repeat' (first
          | refine ax ?_
          | ((fail_if_success (refine aQ ?_));(fail_if_success (refine aR ?_));refine aL ?_)
          | ((first|(refine az aM ?_;simp(disch:=omega) [aj,dA,aq,gm,kr,f0,f1,f2,f3];(try(refine⟨by first|decide|rfl,?_⟩)))|(refine aK ?_;simp(disch:=omega) [aj,dA,aq,gm,kr,f0,f1,f2,f3]));(try(refine al [0,1,2,3] ?_;intro F;simp only[ak];intro U ab aa af;simp(disch:=omega) [aj,dA,aq,gm,kr,f0,f1,f2,f3] at U ab aa af;clear f0 f1 f2 f3;have f0:=U;have f1:=ab;have f2:=aa;have f3:=af;clear U ab aa af)))
          | (refine aJ _ (by simp(disch:=omega) [aj,dA,aq,gm,kr,f0,f1,f2,f3];rfl) (fun I=>?_) (fun I=>?_)<;>first|(exfalso;simp(disch:=omega) [aj,dA,aq,gm,kr] at I;done)|(exfalso;simp at I;omega)|(simp at I))
          | ((first|refine aH ?_|refine aN ?_);simp(disch:=omega) [aj,dA,aq,gm,kr,f0,f1,f2,f3]))
 · have aj:(r == Z 2)=false:=by rw[h];rfl
   have aW:(r == Z 10)=true:=by rw[h];rfl
   rw[decide_eq_true h,Bool.or_true,Bool.true_and]
   clear h
   cases yQ
   · skip
     refine al [0,1,2,3] fun F=>?_
     simp only[ak]
     intro f0 f1 f2 f3
     simp[a8] at f0 f1 f2 f3
     repeat' (first
      | refine ax ?_
      | ((fail_if_success (refine aQ ?_));(fail_if_success (refine aR ?_));refine aL ?_)
      | ((first|(refine az aM ?_;simp(disch:=omega) [aj,aW,dA,f0,f1,f2,f3];(try(refine⟨by first|decide|rfl,?_⟩)))|(refine aK ?_;simp(disch:=omega) [aj,aW,dA,f0,f1,f2,f3]));(try(refine al [0,1,2,3] ?_;intro F;simp only[ak];intro U ab aa af;simp(disch:=omega) [aj,aW,dA,f0,f1,f2,f3] at U ab aa af;clear f0 f1 f2 f3;have f0:=U;have f1:=ab;have f2:=aa;have f3:=af;clear U ab aa af)))
      | (refine aJ _ (by simp(disch:=omega) [aj,aW,dA,f0,f1,f2,f3];rfl) (fun I=>?_) (fun I=>?_)<;>first|(exfalso;simp(disch:=omega) [aj,aW,dA] at I;done)|(exfalso;simp at I;omega)|(simp at I))
      | ((first|refine aH ?_|refine aN ?_);simp(disch:=omega) [aj,aW,dA,f0,f1,f2,f3]))
   · cases a6:decide (bd<=an)
     · have aq:(bd<=an)=False:=eq_false (of_decide_eq_false a6)
       refine al [0,1,2,3] fun F=>?_
       simp only[ak]
       intro f0 f1 f2 f3
       simp[a8] at f0 f1 f2 f3
       repeat' (first
        | refine ax ?_
        | ((fail_if_success (refine aQ ?_));(fail_if_success (refine aR ?_));refine aL ?_)
        | ((first|(refine az aM ?_;simp(disch:=omega) [aj,aW,dA,aq,f0,f1,f2,f3];(try(refine⟨by first|decide|rfl,?_⟩)))|(refine aK ?_;simp(disch:=omega) [aj,aW,dA,aq,f0,f1,f2,f3]));(try(refine al [0,1,2,3] ?_;intro F;simp only[ak];intro U ab aa af;simp(disch:=omega) [aj,aW,dA,aq,f0,f1,f2,f3] at U ab aa af;clear f0 f1 f2 f3;have f0:=U;have f1:=ab;have f2:=aa;have f3:=af;clear U ab aa af)))
        | (refine aJ _ (by simp(disch:=omega) [aj,aW,dA,aq,f0,f1,f2,f3];rfl) (fun I=>?_) (fun I=>?_)<;>first|(exfalso;simp(disch:=omega) [aj,aW,dA,aq] at I;done)|(exfalso;simp at I;omega)|(simp at I))
        | ((first|refine aH ?_|refine aN ?_);simp(disch:=omega) [aj,aW,dA,aq,f0,f1,f2,f3]))
     · have aq:(bd<=an)=True:=eq_true (of_decide_eq_true a6)
       cases dv
       · skip
         refine al [0,1,2,3] fun F=>?_
         simp only[ak]
         intro f0 f1 f2 f3
         simp[a8] at f0 f1 f2 f3
         repeat' (first
          | refine ax ?_
          | ((fail_if_success (refine aQ ?_));(fail_if_success (refine aR ?_));refine aL ?_)
          | ((first|(refine az aM ?_;simp(disch:=omega) [aj,aW,dA,aq,gm,f0,f1,f2,f3];(try(refine⟨by first|decide|rfl,?_⟩)))|(refine aK ?_;simp(disch:=omega) [aj,aW,dA,aq,gm,f0,f1,f2,f3]));(try(refine al [0,1,2,3] ?_;intro F;simp only[ak];intro U ab aa af;simp(disch:=omega) [aj,aW,dA,aq,gm,f0,f1,f2,f3] at U ab aa af;clear f0 f1 f2 f3;have f0:=U;have f1:=ab;have f2:=aa;have f3:=af;clear U ab aa af)))
          | (refine aJ _ (by simp(disch:=omega) [aj,aW,dA,aq,gm,f0,f1,f2,f3];rfl) (fun I=>?_) (fun I=>?_)<;>first|(exfalso;simp(disch:=omega) [aj,aW,dA,aq,gm] at I;done)|(exfalso;simp at I;omega)|(simp at I))
          | ((first|refine aH ?_|refine aN ?_);simp(disch:=omega) [aj,aW,dA,aq,gm,f0,f1,f2,f3]))
       · skip
         refine al [0,1,2,3] fun F=>?_
         simp only[ak]
         intro f0 f1 f2 f3
         simp[a8] at f0 f1 f2 f3
         repeat' (first
          | refine ax ?_
          | ((fail_if_success (refine aQ ?_));(fail_if_success (refine aR ?_));refine aL ?_)
          | ((first|(refine az aM ?_;simp(disch:=omega) [aj,aW,dA,aq,gm,kr,f0,f1,f2,f3];(try(refine⟨by first|decide|rfl,?_⟩)))|(refine aK ?_;simp(disch:=omega) [aj,aW,dA,aq,gm,kr,f0,f1,f2,f3]));(try(refine al [0,1,2,3] ?_;intro F;simp only[ak];intro U ab aa af;simp(disch:=omega) [aj,aW,dA,aq,gm,kr,f0,f1,f2,f3] at U ab aa af;clear f0 f1 f2 f3;have f0:=U;have f1:=ab;have f2:=aa;have f3:=af;clear U ab aa af)))
          | (refine aJ _ (by simp(disch:=omega) [aj,aW,dA,aq,gm,kr,f0,f1,f2,f3];rfl) (fun I=>?_) (fun I=>?_)<;>first|(exfalso;simp(disch:=omega) [aj,aW,dA,aq,gm,kr] at I;done)|(exfalso;simp at I;omega)|(simp at I))
          | ((first|refine aH ?_|refine aN ?_);simp(disch:=omega) [aj,aW,dA,aq,gm,kr,f0,f1,f2,f3]))
 · have aj:(r == Z 2)=false:=by simpa[Z] using ae
   have aW:(r == Z 10)=false:=by simpa[Z] using h2
   rw[decide_eq_false ae,decide_eq_false h2,Bool.or_false,Bool.false_and]
   clear ae h2
   refine al [0,1,2,3] fun F=>?_
   simp only[ak]
   intro f0 f1 f2 f3
   simp[a8] at f0 f1 f2 f3
   repeat' (first
    | refine ax ?_
    | ((fail_if_success (refine aQ ?_));(fail_if_success (refine aR ?_));refine aL ?_)
    | ((first|(refine az aM ?_;simp(disch:=omega) [aj,aW,f0,f1,f2,f3];(try(refine⟨by first|decide|rfl,?_⟩)))|(refine aK ?_;simp(disch:=omega) [aj,aW,f0,f1,f2,f3]));(try(refine al [0,1,2,3] ?_;intro F;simp only[ak];intro U ab aa af;simp(disch:=omega) [aj,aW,f0,f1,f2,f3] at U ab aa af;clear f0 f1 f2 f3;have f0:=U;have f1:=ab;have f2:=aa;have f3:=af;clear U ab aa af)))
    | (refine aJ _ (by simp(disch:=omega) [aj,aW,f0,f1,f2,f3];rfl) (fun I=>?_) (fun I=>?_)<;>first|(exfalso;simp(disch:=omega) [aj,aW] at I;done)|(exfalso;simp at I;omega)|(simp at I))
    | ((first|refine aH ?_|refine aN ?_);simp(disch:=omega) [aj,aW,f0,f1,f2,f3]))
theorem fS.KY {f:cE} (h:fS f):tw [d_ f]=some (.bool true):=by
 have t:=W7 ((f.β:Int),(f.p:Int),f.bd,f.an) trivial (args:=[d_ f]) (by simp)
 simp only[h.right] at t
 exact t
end
end
end Go.Proofs.YtcikknajimdjoaaGreatDoor
