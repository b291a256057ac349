/- What the claim needs of the walks, put together by a program (shake.py). -/
import Derived.Test.YtemiagcencajeaaGreatDoorCtH
set_option maxRecDepth 100000
set_option linter.unusedSimpArgs false
set_option linter.unusedVariables false
set_option linter.unusedSectionVars false
namespace Go.Proofs.YtemiagcencajeaaGreatDoor
section
set_option maxHeartbeats 8000000
open Go Go.Eng Go.RowKit
theorem Ie {a b q r:Int} (aj:b≠0) (h:r+b*q=a) (aJ:0<=r) (ab:r<b.natAbs):a/b=q/\a%b=r:=by
 rcases Int.lt_or_gt_of_ne aj with bO|So
 · obtain⟨c,rfl⟩:∃c,b= -c:=⟨-b,by omega⟩
   have:=(Int.ediv_emod_unique (a:=a) (b:=c) (r:=r) (q:= -q) (by omega)).2 ⟨by grind,aJ,by omega⟩
   rw[Int.ediv_neg,Int.emod_neg]
   omega
 · exact(Int.ediv_emod_unique So).2 ⟨h,aJ,by omega⟩
theorem Ig (a b:Int) (aj:b≠0) (aP:bK a=false\/a.natAbs%b.natAbs=0):
 dK (bK a != bK b) (a.natAbs/b.natAbs)=a/b/\dK false (a.natAbs%b.natAbs)=a%b:=by
 have bh:=q7 a
 have pU:=q7 b
 have bA:=Nat.div_add_mod a.natAbs b.natAbs
 have hm:=Nat.mod_lt a.natAbs (show 0<b.natAbs by omega)
 generalize eN:b.natAbs=n at*
 generalize a.natAbs=m at*
 generalize m/n=q at*
 generalize m%n=r at*
 generalize bK a=s at*
 generalize bK b=t at*
 have sn:(n:Int)*q+r=m:=by exact_mod_cast bA
 have:=Ie (a:=a) (b:=b) (q:=dK (s != t) q) (r:=r) aj (by
  subst bh pU
  rcases aP with rfl|rfl
  · cases t<;>simp[dK]<;>grind
  · cases s<;>cases t<;>simp[dK]<;>grind) (by omega) (by omega)
 exact⟨this.1.symm,by rw[this.2];simp[dK]⟩
theorem Ih (a b:Int) (aj:b≠0) (dD:bK a=true) (ba:a.natAbs%b.natAbs≠0):
 dK (bK a != bK b) (a.natAbs/b.natAbs+1)=a/b/\dK false (b.natAbs - a.natAbs%b.natAbs)=a%b:=by
 have bh:=q7 a
 have pU:=q7 b
 have bA:=Nat.div_add_mod a.natAbs b.natAbs
 have hm:=Nat.mod_lt a.natAbs (show 0<b.natAbs by omega)
 generalize eN:b.natAbs=n at*
 generalize a.natAbs=m at*
 generalize m/n=q at*
 generalize m%n=r at*
 rw[dD] at bh|-
 generalize bK b=t at*
 have sn:(n:Int)*q+r=m:=by exact_mod_cast bA
 have:=Ie (a:=a) (b:=b) (q:=dK (true != t) (q+1)) (r:=((n - r:Nat):Int)) aj (by
  subst bh pU
  rw[Int.ofNat_sub (by omega)]
  cases t<;>simp[dK]<;>grind) (by omega) (by omega)
 exact⟨this.1.symm,by rw[this.2];simp[dK]⟩
end
section
set_option maxHeartbeats 8000000
open Go Go.Eng Go.RowKit
attribute [local simp] bx.m bx.o bx.n bx.g gZ eQ df c7 dj evalOp.eq_1 evalOp.eq_2 evalOp.eq_3 evalOp.eq_4 evalOp.eq_5 evalOp.eq_6 evalOp.eq_7 evalOp.eq_8 evalOp.eq_9 evalOp.eq_10 evalOp.eq_11 evalOp.eq_12 evalOp.eq_13 evalOp.eq_14 evalOp.eq_15 evalOp.eq_16 evalOp.eq_17 evalOp.eq_18 evalOp.eq_19 evalOp.eq_20 evalOp.eq_21 evalOp.eq_22 evalOp.eq_23 evalOp.eq_24 evalOp.eq_25 evalOp.eq_27 evalOp.eq_28 evalOp.eq_29 jK bf.ev c6 aF aA.new bj J.cells J.c0 J.ew J.eA hF hH hG hI hK hJ iX iY iZ gm gn cut partOf bound elems ja jb jc jd je jf jg jh ji jj jk jl g2 jm jn jo jq jr js jt ju jv jw jx jy jz jA jB jC jD jE jF jG jH jI jJ eP eJ eB fA hL g0 aA.close aA.set hr jL jM jN i' g1 gv fT fs gf hn gM gg ho hp hq fx fy fz fv hM bY hj hN hk hO hP fq hQ fr hR hS hT gd iW hU hV hW hX hY hZ h0 h1 h3 h4 h5 h6 h7 h8 h9 h_ h' ia ib hl ic ie ig ih ij ik il im iq ir iu iv iw ix iy
attribute [local simp high] iT iU iV iz iA iB iC iD iE iF iG iH iI iJ iK iL iM iN iO iP iQ iR iS
attribute [local simp] aJ List.getElem?_cons_zero List.getElem?_cons_succ eH dp fP Nat.mod_eq_of_lt jY jZ j0 j1 fU j2 j3 j4
section
attribute [local irreducible] ck
attribute [local simp] ed ef dm
noncomputable def Sp:FuncId->Option (List J->Option J):=dn []
theorem Sq:∀f T,Sp f=some T->br Tryz.prog G f T:=dr (by simp)
theorem Ii:aw 1= .sl [.int .u32 (Z 1)] false:=by simp only[aw,nL];rfl
noncomputable def xG:List J->Option J:=cd (fun z:Unit=>True) (fun z=>[]) (fun z=>aw 1)
theorem Sr (z:Unit) (h:True) {args:List J} (he:args.map J.loose= []):xG args=some (aw 1):=cU (fun z w h=>by first|(simp only[List.cons.injEq,J.int.injEq,J.bool.injEq,J.sl.injEq,cl,cm,ct,cu,cp,b2,b6,cn,bY,true_and,and_true] at h;simp[h];done)|(simp only[J.agg.injEq,List.cons.injEq,J.int.injEq,J.bool.injEq,J.sl.injEq,cl,cm,ct,cu,cp,b2,b6,cn,bY,true_and,and_true] at h;simp[h])) z h he
theorem Ss:br Tryz.prog G 175 xG:=by
 refine cG mixed Sq EU fun z aP=>?_
 rw[Ii]
 unfold i175
 refine ao [0] fun F=>?_
 simp only[an]
 intro f0
 simp[bj] at f0
 repeat' (first
  | refine aC ?_
  | ((fail_if_success (refine aT ?_));(fail_if_success (refine aU ?_));refine aO ?_)
  | ((first|(refine aD aN ?_;simp(disch:=omega) [f0];(try(refine⟨by first|decide|rfl,?_⟩)))|(refine aM ?_;simp(disch:=omega) [f0]));(try(refine ao [0] ?_;intro F;simp only[an];intro U;simp(disch:=omega) [f0] at U;clear f0;have f0:=U;clear U)))
  | (refine aL _ (by simp(disch:=omega) [f0];rfl) (fun I=>?_) (fun I=>?_)<;>first|(exfalso;simp(disch:=omega) at I;done)|(exfalso;simp at I;omega)|(simp at I))
  | ((first|refine aH ?_|refine aQ ?_);simp(disch:=omega) [f0]))
noncomputable def tz:FuncId->Option (List J->Option J):=dn [(205,tm),(174,g5),(185,ox),(84,mz),(175,xG)]
theorem St:∀f T,tz f=some T->br Tryz.prog G f T:=dr (by simp only[List.forall_mem_cons];exact⟨Ic,sT,w0,u6,Ss,fun _ h=>absurd h (by simp)⟩)
theorem Su:tz 205=some tm:=rfl
theorem Sv:tz 174=some g5:=rfl
theorem Sw:tz 185=some ox:=rfl
theorem Sx:tz 84=some mz:=rfl
theorem Sy:tz 175=some xG:=rfl
attribute [local simp] Su Sv Sw Sx Sy
noncomputable def xH:List J->Option J:=cd (fun z:Int × Int=>cb z.1<=1000000/\cb z.2<=1000000) (fun z=>[bk z.1,bk z.2]) (fun z=>if z.2=0 then .ch [bk 0,bk 0,bt 3] else .ch [bk (z.1/z.2),bk (z.1%z.2),bt 0])
theorem Sz (z:Int × Int) (h:cb z.1<=1000000/\cb z.2<=1000000) {args:List J} (he:args.map J.loose= [bk z.1,bk z.2]):xH args=some (if z.2=0 then .ch [bk 0,bk 0,bt 3] else .ch [bk (z.1/z.2),bk (z.1%z.2),bt 0]):=cU (fun z w h=>by first|(simp only[List.cons.injEq,J.int.injEq,J.bool.injEq,J.sl.injEq,cl,cm,ct,cu,cp,b2,b6,cn,bY,true_and,and_true] at h;simp[h];done)|(simp only[J.agg.injEq,List.cons.injEq,J.int.injEq,J.bool.injEq,J.sl.injEq,cl,cm,ct,cu,cp,b2,b6,cn,bY,true_and,and_true] at h;simp[h])) z h he
theorem SA:br Tryz.prog G 183 xH:=by
 refine cG mixed St E0 fun z aP=>?_
 obtain⟨a,b⟩:=z
 obtain⟨bh,aj⟩:=aP
 simp only[cb] at bh aj|-
 have bH:=HS (a.natAbs,b.natAbs) ⟨by simp only;omega,by simp only;omega⟩ (args:=[aw a.natAbs,aw b.natAbs]) (by simp)
 simp only at bH
 unfold i183
 by_cases c_:b=0
 · rw[if_pos c_]
   subst c_
   rw[if_pos (show (0:Int).natAbs=0 from rfl)] at bH
   have cK:ah 0= []:=fu
   have cM:bK 0=false:=rfl
   simp only[aw,cF,Int.natAbs_zero,cK,List.map_nil] at bH
   refine ao [0,1,2,3,4,5,6,7,8,9,20,30] fun F=>?_
   simp only[an]
   intro f0 f1 f2 f3 f4 f5 f6 f7 f8 f9 f20 f30
   simp[bj] at f0 f1 f2 f3 f4 f5 f6 f7 f8 f9 f20 f30
   repeat' (first
    | refine aC ?_
    | ((fail_if_success (refine aT ?_));(fail_if_success (refine aU ?_));refine aO ?_)
    | ((first|(refine aD aN ?_;simp(disch:=omega) [bH,cK,cM,f0,f1,f2,f3,f4,f5,f6,f7,f8,f9,f20,f30];(try(refine⟨by first|decide|rfl,?_⟩)))|(refine aM ?_;simp(disch:=omega) [bH,cK,cM,f0,f1,f2,f3,f4,f5,f6,f7,f8,f9,f20,f30]));(try(refine ao [0,1,2,3,4,5,6,7,8,9,20,30] ?_;intro F;simp only[an];intro U aa af al ad ae ai au az a2 b8 cN;simp(disch:=omega) [bH,cK,cM,f0,f1,f2,f3,f4,f5,f6,f7,f8,f9,f20,f30] at U aa af al ad ae ai au az a2 b8 cN;clear f0 f1 f2 f3 f4 f5 f6 f7 f8 f9 f20 f30;have f0:=U;have f1:=aa;have f2:=af;have f3:=al;have f4:=ad;have f5:=ae;have f6:=ai;have f7:=au;have f8:=az;have f9:=a2;have f20:=b8;have f30:=cN;clear U aa af al ad ae ai au az a2 b8 cN)))
    | (refine aL _ (by simp(disch:=omega) [bH,cK,cM,f0,f1,f2,f3,f4,f5,f6,f7,f8,f9,f20,f30];rfl) (fun I=>?_) (fun I=>?_)<;>first|(exfalso;simp(disch:=omega) [bH,cK,cM] at I;done)|(exfalso;simp at I;omega)|(simp at I))
    | ((first|refine aH ?_|refine aQ ?_);simp(disch:=omega) [bH,cK,cM,f0,f1,f2,f3,f4,f5,f6,f7,f8,f9,f20,f30,cK,cM]))
 · rw[if_neg c_]
   rw[if_neg (by omega)] at bH
   have bc:=fW (Nat.div_le_self a.natAbs b.natAbs)
   have ba:=fW (Nat.mod_le a.natAbs b.natAbs)
   by_cases aP:bK a=false\/a.natAbs%b.natAbs=0
   · obtain⟨d1,d2⟩:=Ig a b c_ aP
     have t1:=mA (b:=bK a != bK b) (n:=a.natAbs/b.natAbs) (by omega)
     have t2:=mA (b:=false) (n:=a.natAbs%b.natAbs) (by omega)
     rw[d1] at t1
     rw[d2] at t2
     clear d1 d2
     generalize a/b=Q at*
     generalize a%b=R at*
     generalize a.natAbs/b.natAbs=q at*
     generalize a.natAbs%b.natAbs=r at*
     cases aI:bK a<;>cases a6:bK b<;>rw[aI,a6] at t1<;>simp only[bne,beq_self_eq_true,Bool.not_true,Bool.not_false,show (false == true)=false from rfl,show (true == false)=false from rfl] at t1
     · skip
       refine ao [0,1,2,3,4,5,6,7,8,9,20,30] fun F=>?_
       simp only[an]
       intro f0 f1 f2 f3 f4 f5 f6 f7 f8 f9 f20 f30
       simp[bj] at f0 f1 f2 f3 f4 f5 f6 f7 f8 f9 f20 f30
       repeat' (first
        | refine aC ?_
        | ((fail_if_success (refine aT ?_));(fail_if_success (refine aU ?_));refine aO ?_)
        | ((first|(refine aD aN ?_;simp(disch:=omega) [aI,a6,bH,t1,t2,f0,f1,f2,f3,f4,f5,f6,f7,f8,f9,f20,f30];(try(refine⟨by first|decide|rfl,?_⟩)))|(refine aM ?_;simp(disch:=omega) [aI,a6,bH,t1,t2,f0,f1,f2,f3,f4,f5,f6,f7,f8,f9,f20,f30]));(try(refine ao [0,1,2,3,4,5,6,7,8,9,20,30] ?_;intro F;simp only[an];intro U aa af al ad ae ai au az a2 b8 cN;simp(disch:=omega) [aI,a6,bH,t1,t2,f0,f1,f2,f3,f4,f5,f6,f7,f8,f9,f20,f30] at U aa af al ad ae ai au az a2 b8 cN;clear f0 f1 f2 f3 f4 f5 f6 f7 f8 f9 f20 f30;have f0:=U;have f1:=aa;have f2:=af;have f3:=al;have f4:=ad;have f5:=ae;have f6:=ai;have f7:=au;have f8:=az;have f9:=a2;have f20:=b8;have f30:=cN;clear U aa af al ad ae ai au az a2 b8 cN)))
        | (refine aL _ (by simp(disch:=omega) [aI,a6,bH,t1,t2,f0,f1,f2,f3,f4,f5,f6,f7,f8,f9,f20,f30];rfl) (fun I=>?_) (fun I=>?_)<;>first|(exfalso;simp(disch:=omega) [aI,a6,bH,t1,t2] at I;done)|(exfalso;simp at I;omega)|(simp at I))
        | ((first|refine aH ?_|refine aQ ?_);simp(disch:=omega) [aI,a6,bH,t1,t2,f0,f1,f2,f3,f4,f5,f6,f7,f8,f9,f20,f30]))
     · skip
       refine ao [0,1,2,3,4,5,6,7,8,9,20,30] fun F=>?_
       simp only[an]
       intro f0 f1 f2 f3 f4 f5 f6 f7 f8 f9 f20 f30
       simp[bj] at f0 f1 f2 f3 f4 f5 f6 f7 f8 f9 f20 f30
       repeat' (first
        | refine aC ?_
        | ((fail_if_success (refine aT ?_));(fail_if_success (refine aU ?_));refine aO ?_)
        | ((first|(refine aD aN ?_;simp(disch:=omega) [aI,a6,bH,t1,t2,f0,f1,f2,f3,f4,f5,f6,f7,f8,f9,f20,f30];(try(refine⟨by first|decide|rfl,?_⟩)))|(refine aM ?_;simp(disch:=omega) [aI,a6,bH,t1,t2,f0,f1,f2,f3,f4,f5,f6,f7,f8,f9,f20,f30]));(try(refine ao [0,1,2,3,4,5,6,7,8,9,20,30] ?_;intro F;simp only[an];intro U aa af al ad ae ai au az a2 b8 cN;simp(disch:=omega) [aI,a6,bH,t1,t2,f0,f1,f2,f3,f4,f5,f6,f7,f8,f9,f20,f30] at U aa af al ad ae ai au az a2 b8 cN;clear f0 f1 f2 f3 f4 f5 f6 f7 f8 f9 f20 f30;have f0:=U;have f1:=aa;have f2:=af;have f3:=al;have f4:=ad;have f5:=ae;have f6:=ai;have f7:=au;have f8:=az;have f9:=a2;have f20:=b8;have f30:=cN;clear U aa af al ad ae ai au az a2 b8 cN)))
        | (refine aL _ (by simp(disch:=omega) [aI,a6,bH,t1,t2,f0,f1,f2,f3,f4,f5,f6,f7,f8,f9,f20,f30];rfl) (fun I=>?_) (fun I=>?_)<;>first|(exfalso;simp(disch:=omega) [aI,a6,bH,t1,t2] at I;done)|(exfalso;simp at I;omega)|(simp at I))
        | ((first|refine aH ?_|refine aQ ?_);simp(disch:=omega) [aI,a6,bH,t1,t2,f0,f1,f2,f3,f4,f5,f6,f7,f8,f9,f20,f30]))
     · have cK:ah r= []:=jO.2 (aP.resolve_left (by rw[aI];decide))
       simp only[aw,cF,cK,List.map_nil] at bH t2
       refine ao [0,1,2,3,4,5,6,7,8,9,20,30] fun F=>?_
       simp only[an]
       intro f0 f1 f2 f3 f4 f5 f6 f7 f8 f9 f20 f30
       simp[bj] at f0 f1 f2 f3 f4 f5 f6 f7 f8 f9 f20 f30
       repeat' (first
        | refine aC ?_
        | ((fail_if_success (refine aT ?_));(fail_if_success (refine aU ?_));refine aO ?_)
        | ((first|(refine aD aN ?_;simp(disch:=omega) [aI,a6,bH,t1,t2,f0,f1,f2,f3,f4,f5,f6,f7,f8,f9,f20,f30];(try(refine⟨by first|decide|rfl,?_⟩)))|(refine aM ?_;simp(disch:=omega) [aI,a6,bH,t1,t2,f0,f1,f2,f3,f4,f5,f6,f7,f8,f9,f20,f30]));(try(refine ao [0,1,2,3,4,5,6,7,8,9,20,30] ?_;intro F;simp only[an];intro U aa af al ad ae ai au az a2 b8 cN;simp(disch:=omega) [aI,a6,bH,t1,t2,f0,f1,f2,f3,f4,f5,f6,f7,f8,f9,f20,f30] at U aa af al ad ae ai au az a2 b8 cN;clear f0 f1 f2 f3 f4 f5 f6 f7 f8 f9 f20 f30;have f0:=U;have f1:=aa;have f2:=af;have f3:=al;have f4:=ad;have f5:=ae;have f6:=ai;have f7:=au;have f8:=az;have f9:=a2;have f20:=b8;have f30:=cN;clear U aa af al ad ae ai au az a2 b8 cN)))
        | (refine aL _ (by simp(disch:=omega) [aI,a6,bH,t1,t2,f0,f1,f2,f3,f4,f5,f6,f7,f8,f9,f20,f30];rfl) (fun I=>?_) (fun I=>?_)<;>first|(exfalso;simp(disch:=omega) [aI,a6,bH,t1,t2] at I;done)|(exfalso;simp at I;omega)|(simp at I))
        | ((first|refine aH ?_|refine aQ ?_);simp(disch:=omega) [aI,a6,bH,t1,t2,f0,f1,f2,f3,f4,f5,f6,f7,f8,f9,f20,f30]))
     · have cK:ah r= []:=jO.2 (aP.resolve_left (by rw[aI];decide))
       simp only[aw,cF,cK,List.map_nil] at bH t2
       refine ao [0,1,2,3,4,5,6,7,8,9,20,30] fun F=>?_
       simp only[an]
       intro f0 f1 f2 f3 f4 f5 f6 f7 f8 f9 f20 f30
       simp[bj] at f0 f1 f2 f3 f4 f5 f6 f7 f8 f9 f20 f30
       repeat' (first
        | refine aC ?_
        | ((fail_if_success (refine aT ?_));(fail_if_success (refine aU ?_));refine aO ?_)
        | ((first|(refine aD aN ?_;simp(disch:=omega) [aI,a6,bH,t1,t2,f0,f1,f2,f3,f4,f5,f6,f7,f8,f9,f20,f30];(try(refine⟨by first|decide|rfl,?_⟩)))|(refine aM ?_;simp(disch:=omega) [aI,a6,bH,t1,t2,f0,f1,f2,f3,f4,f5,f6,f7,f8,f9,f20,f30]));(try(refine ao [0,1,2,3,4,5,6,7,8,9,20,30] ?_;intro F;simp only[an];intro U aa af al ad ae ai au az a2 b8 cN;simp(disch:=omega) [aI,a6,bH,t1,t2,f0,f1,f2,f3,f4,f5,f6,f7,f8,f9,f20,f30] at U aa af al ad ae ai au az a2 b8 cN;clear f0 f1 f2 f3 f4 f5 f6 f7 f8 f9 f20 f30;have f0:=U;have f1:=aa;have f2:=af;have f3:=al;have f4:=ad;have f5:=ae;have f6:=ai;have f7:=au;have f8:=az;have f9:=a2;have f20:=b8;have f30:=cN;clear U aa af al ad ae ai au az a2 b8 cN)))
        | (refine aL _ (by simp(disch:=omega) [aI,a6,bH,t1,t2,f0,f1,f2,f3,f4,f5,f6,f7,f8,f9,f20,f30];rfl) (fun I=>?_) (fun I=>?_)<;>first|(exfalso;simp(disch:=omega) [aI,a6,bH,t1,t2] at I;done)|(exfalso;simp at I;omega)|(simp at I))
        | ((first|refine aH ?_|refine aQ ?_);simp(disch:=omega) [aI,a6,bH,t1,t2,f0,f1,f2,f3,f4,f5,f6,f7,f8,f9,f20,f30]))
   · have aI:bK a=true:=by cases h:bK a<;>simp[h] at aP|-
     have pS:a.natAbs%b.natAbs≠0:=fun h=>aP (.inr h)
     obtain⟨d1,d2⟩:=Ih a b c_ aI pS
     have gl:=mr (a:=a.natAbs/b.natAbs) (b:=1) (e:=false) (e':=false) (by omega) (by rw[nL];decide)
     have b7:=u4 (a:=b.natAbs) (b:=a.natAbs%b.natAbs) (e:=false) (e':=false) (by omega) (by omega)
     have SB:=Nat.mod_lt a.natAbs (show 0<b.natAbs by omega)
     rw[if_neg (by omega)] at b7
     have aV:=kk (a.natAbs/b.natAbs) 1
     have cP:(ah 1).length=1:=by rw[nL];rfl
     have fN:=fW (Nat.sub_le b.natAbs (a.natAbs%b.natAbs))
     have t1:=mA (b:=bK a != bK b) (n:=a.natAbs/b.natAbs+1) (by omega)
     have t2:=mA (b:=false) (n:=b.natAbs - a.natAbs%b.natAbs) (by omega)
     rw[d1] at t1
     rw[d2] at t2
     have np:=Sr () trivial (args:=[]) rfl
     clear d1 d2
     have ar:¬ah (a.natAbs%b.natAbs)= []:=fun h=>pS (jO.1 h)
     have dP:0<(ah (a.natAbs%b.natAbs)).length:=mo.2 pS
     generalize a/b=Q at*
     generalize a%b=R at*
     generalize a.natAbs/b.natAbs=q at*
     generalize a.natAbs%b.natAbs=r at*
     rw[aI] at t1
     cases a6:bK b<;>rw[a6] at t1<;>simp only[bne,beq_self_eq_true,Bool.not_true,Bool.not_false,show (false == true)=false from rfl,show (true == false)=false from rfl] at t1
     · skip
       refine ao [0,1,2,3,4,5,6,7,8,9,20,30] fun F=>?_
       simp only[an]
       intro f0 f1 f2 f3 f4 f5 f6 f7 f8 f9 f20 f30
       simp[bj] at f0 f1 f2 f3 f4 f5 f6 f7 f8 f9 f20 f30
       repeat' (first
        | refine aC ?_
        | ((fail_if_success (refine aT ?_));(fail_if_success (refine aU ?_));refine aO ?_)
        | ((first|(refine aD aN ?_;simp(disch:=omega) [aI,a6,bH,ar,dP,np,gl,b7,t1,t2,f0,f1,f2,f3,f4,f5,f6,f7,f8,f9,f20,f30];(try(refine⟨by first|decide|rfl,?_⟩)))|(refine aM ?_;simp(disch:=omega) [aI,a6,bH,ar,dP,np,gl,b7,t1,t2,f0,f1,f2,f3,f4,f5,f6,f7,f8,f9,f20,f30]));(try(refine ao [0,1,2,3,4,5,6,7,8,9,20,30] ?_;intro F;simp only[an];intro U aa af al ad ae ai au az a2 b8 cN;simp(disch:=omega) [aI,a6,bH,ar,dP,np,gl,b7,t1,t2,f0,f1,f2,f3,f4,f5,f6,f7,f8,f9,f20,f30] at U aa af al ad ae ai au az a2 b8 cN;clear f0 f1 f2 f3 f4 f5 f6 f7 f8 f9 f20 f30;have f0:=U;have f1:=aa;have f2:=af;have f3:=al;have f4:=ad;have f5:=ae;have f6:=ai;have f7:=au;have f8:=az;have f9:=a2;have f20:=b8;have f30:=cN;clear U aa af al ad ae ai au az a2 b8 cN)))
        | (refine aL _ (by simp(disch:=omega) [aI,a6,bH,ar,dP,np,gl,b7,t1,t2,f0,f1,f2,f3,f4,f5,f6,f7,f8,f9,f20,f30];rfl) (fun I=>?_) (fun I=>?_)<;>first|(exfalso;simp(disch:=omega) [aI,a6,bH,ar,dP,np,gl,b7,t1,t2] at I;done)|(exfalso;simp at I;omega)|(simp at I))
        | ((first|refine aH ?_|refine aQ ?_);simp(disch:=omega) [aI,a6,bH,ar,dP,np,gl,b7,t1,t2,f0,f1,f2,f3,f4,f5,f6,f7,f8,f9,f20,f30]))
     · skip
       refine ao [0,1,2,3,4,5,6,7,8,9,20,30] fun F=>?_
       simp only[an]
       intro f0 f1 f2 f3 f4 f5 f6 f7 f8 f9 f20 f30
       simp[bj] at f0 f1 f2 f3 f4 f5 f6 f7 f8 f9 f20 f30
       repeat' (first
        | refine aC ?_
        | ((fail_if_success (refine aT ?_));(fail_if_success (refine aU ?_));refine aO ?_)
        | ((first|(refine aD aN ?_;simp(disch:=omega) [aI,a6,bH,ar,dP,np,gl,b7,t1,t2,f0,f1,f2,f3,f4,f5,f6,f7,f8,f9,f20,f30];(try(refine⟨by first|decide|rfl,?_⟩)))|(refine aM ?_;simp(disch:=omega) [aI,a6,bH,ar,dP,np,gl,b7,t1,t2,f0,f1,f2,f3,f4,f5,f6,f7,f8,f9,f20,f30]));(try(refine ao [0,1,2,3,4,5,6,7,8,9,20,30] ?_;intro F;simp only[an];intro U aa af al ad ae ai au az a2 b8 cN;simp(disch:=omega) [aI,a6,bH,ar,dP,np,gl,b7,t1,t2,f0,f1,f2,f3,f4,f5,f6,f7,f8,f9,f20,f30] at U aa af al ad ae ai au az a2 b8 cN;clear f0 f1 f2 f3 f4 f5 f6 f7 f8 f9 f20 f30;have f0:=U;have f1:=aa;have f2:=af;have f3:=al;have f4:=ad;have f5:=ae;have f6:=ai;have f7:=au;have f8:=az;have f9:=a2;have f20:=b8;have f30:=cN;clear U aa af al ad ae ai au az a2 b8 cN)))
        | (refine aL _ (by simp(disch:=omega) [aI,a6,bH,ar,dP,np,gl,b7,t1,t2,f0,f1,f2,f3,f4,f5,f6,f7,f8,f9,f20,f30];rfl) (fun I=>?_) (fun I=>?_)<;>first|(exfalso;simp(disch:=omega) [aI,a6,bH,ar,dP,np,gl,b7,t1,t2] at I;done)|(exfalso;simp at I;omega)|(simp at I))
        | ((first|refine aH ?_|refine aQ ?_);simp(disch:=omega) [aI,a6,bH,ar,dP,np,gl,b7,t1,t2,f0,f1,f2,f3,f4,f5,f6,f7,f8,f9,f20,f30]))
noncomputable def A5:FuncId->Option (List J->Option J):=dn [(183,xH),(87,sW)]
theorem SC:∀f T,A5 f=some T->br Tryz.prog G f T:=dr (by simp only[List.forall_mem_cons];exact⟨SA,GN,fun _ h=>absurd h (by simp)⟩)
theorem SD:A5 183=some xH:=rfl
theorem SE:A5 87=some sW:=rfl
attribute [local simp] SD SE
theorem A6 {z:Int} (h:z≠0):(j8 z == Z 0)=false/\(j8 z != Z 0)=true:=by
 simp only[j8,Z]
 rw[if_neg h]
 split<;>exact⟨rfl,rfl⟩
noncomputable def xI:List J->Option J:=cd (fun z:Int × Int=>cb z.1<=1000000/\cb z.2<=1000000) (fun z=>[bk z.1,bk z.2]) (fun z=>if z.2=0\/z.1%z.2≠0 then .ch [bk 0,.bool false] else .ch [bk (z.1/z.2),.bool true])
theorem SF (z:Int × Int) (h:cb z.1<=1000000/\cb z.2<=1000000) {args:List J} (he:args.map J.loose= [bk z.1,bk z.2]):xI args=some (if z.2=0\/z.1%z.2≠0 then .ch [bk 0,.bool false] else .ch [bk (z.1/z.2),.bool true]):=cU (fun z w h=>by first|(simp only[List.cons.injEq,J.int.injEq,J.bool.injEq,J.sl.injEq,cl,cm,ct,cu,cp,b2,b6,cn,bY,true_and,and_true] at h;simp[h];done)|(simp only[J.agg.injEq,List.cons.injEq,J.int.injEq,J.bool.injEq,J.sl.injEq,cl,cm,ct,cu,cp,b2,b6,cn,bY,true_and,and_true] at h;simp[h])) z h he
theorem SG:br Tryz.prog G 115 xI:=by
 refine cG mixed SC EI fun z aP=>?_
 obtain⟨a,b⟩:=z
 have bH:=Sz (a,b) aP (args:=[bk a,bk b]) (by simp)
 have b7:=GM (a%b) trivial (args:=[bk (a%b)]) (by simp)
 simp only at bH|-
 unfold i115
 have cK:ah 0= []:=fu
 have cM:bK 0=false:=rfl
 by_cases c_:b=0
 · rw[if_pos c_] at bH
   rw[if_pos (.inl c_)]
   simp only[bk,cK,cM,Int.natAbs_zero,aw,cF,List.map_nil] at bH
   refine ao [0,1,2,3,4,5,6,7,8,22] fun F=>?_
   simp only[an]
   intro f0 f1 f2 f3 f4 f5 f6 f7 f8 f22
   simp[bj] at f0 f1 f2 f3 f4 f5 f6 f7 f8 f22
   repeat' (first
    | refine aC ?_
    | ((fail_if_success (refine aT ?_));(fail_if_success (refine aU ?_));refine aO ?_)
    | ((first|(refine aD aN ?_;simp(disch:=omega) [bH,f0,f1,f2,f3,f4,f5,f6,f7,f8,f22];(try(refine⟨by first|decide|rfl,?_⟩)))|(refine aM ?_;simp(disch:=omega) [bH,f0,f1,f2,f3,f4,f5,f6,f7,f8,f22]));(try(refine ao [0,1,2,3,4,5,6,7,8,22] ?_;intro F;simp only[an];intro U aa af al ad ae ai au az cc;simp(disch:=omega) [bH,f0,f1,f2,f3,f4,f5,f6,f7,f8,f22] at U aa af al ad ae ai au az cc;clear f0 f1 f2 f3 f4 f5 f6 f7 f8 f22;have f0:=U;have f1:=aa;have f2:=af;have f3:=al;have f4:=ad;have f5:=ae;have f6:=ai;have f7:=au;have f8:=az;have f22:=cc;clear U aa af al ad ae ai au az cc)))
    | (refine aL _ (by simp(disch:=omega) [bH,f0,f1,f2,f3,f4,f5,f6,f7,f8,f22];rfl) (fun I=>?_) (fun I=>?_)<;>first|(exfalso;simp(disch:=omega) [bH] at I;done)|(exfalso;simp at I;omega)|(simp at I))
    | ((first|refine aH ?_|refine aQ ?_);simp(disch:=omega) [bH,f0,f1,f2,f3,f4,f5,f6,f7,f8,f22,cK,cM]))
 · rw[if_neg c_] at bH
   by_cases ba:a%b=0
   · rw[if_neg (by simp[c_,ba])]
     have k8:j8 (a%b)=Z 0:=by rw[ba];rfl
     rw[k8] at b7
     clear ba k8
     generalize a/b=q at*
     generalize a%b=r at*
     refine ao [0,1,2,3,4,5,6,7,8,22] fun F=>?_
     simp only[an]
     intro f0 f1 f2 f3 f4 f5 f6 f7 f8 f22
     simp[bj] at f0 f1 f2 f3 f4 f5 f6 f7 f8 f22
     repeat' (first
      | refine aC ?_
      | ((fail_if_success (refine aT ?_));(fail_if_success (refine aU ?_));refine aO ?_)
      | ((first|(refine aD aN ?_;simp(disch:=omega) [bH,b7,f0,f1,f2,f3,f4,f5,f6,f7,f8,f22];(try(refine⟨by first|decide|rfl,?_⟩)))|(refine aM ?_;simp(disch:=omega) [bH,b7,f0,f1,f2,f3,f4,f5,f6,f7,f8,f22]));(try(refine ao [0,1,2,3,4,5,6,7,8,22] ?_;intro F;simp only[an];intro U aa af al ad ae ai au az cc;simp(disch:=omega) [bH,b7,f0,f1,f2,f3,f4,f5,f6,f7,f8,f22] at U aa af al ad ae ai au az cc;clear f0 f1 f2 f3 f4 f5 f6 f7 f8 f22;have f0:=U;have f1:=aa;have f2:=af;have f3:=al;have f4:=ad;have f5:=ae;have f6:=ai;have f7:=au;have f8:=az;have f22:=cc;clear U aa af al ad ae ai au az cc)))
      | (refine aL _ (by simp(disch:=omega) [bH,b7,f0,f1,f2,f3,f4,f5,f6,f7,f8,f22];rfl) (fun I=>?_) (fun I=>?_)<;>first|(exfalso;simp(disch:=omega) [bH,b7] at I;done)|(exfalso;simp at I;omega)|(simp at I))
      | ((first|refine aH ?_|refine aQ ?_);simp(disch:=omega) [bH,b7,f0,f1,f2,f3,f4,f5,f6,f7,f8,f22]))
   · rw[if_pos (.inr ba)]
     obtain⟨s1,s2⟩:=A6 ba
     generalize a/b=q at*
     generalize j8 (a%b)=Ij at*
     generalize a%b=r at*
     refine ao [0,1,2,3,4,5,6,7,8,22] fun F=>?_
     simp only[an]
     intro f0 f1 f2 f3 f4 f5 f6 f7 f8 f22
     simp[bj] at f0 f1 f2 f3 f4 f5 f6 f7 f8 f22
     repeat' (first
      | refine aC ?_
      | ((fail_if_success (refine aT ?_));(fail_if_success (refine aU ?_));refine aO ?_)
      | ((first|(refine aD aN ?_;simp(disch:=omega) [bH,b7,s1,s2,f0,f1,f2,f3,f4,f5,f6,f7,f8,f22];(try(refine⟨by first|decide|rfl,?_⟩)))|(refine aM ?_;simp(disch:=omega) [bH,b7,s1,s2,f0,f1,f2,f3,f4,f5,f6,f7,f8,f22]));(try(refine ao [0,1,2,3,4,5,6,7,8,22] ?_;intro F;simp only[an];intro U aa af al ad ae ai au az cc;simp(disch:=omega) [bH,b7,s1,s2,f0,f1,f2,f3,f4,f5,f6,f7,f8,f22] at U aa af al ad ae ai au az cc;clear f0 f1 f2 f3 f4 f5 f6 f7 f8 f22;have f0:=U;have f1:=aa;have f2:=af;have f3:=al;have f4:=ad;have f5:=ae;have f6:=ai;have f7:=au;have f8:=az;have f22:=cc;clear U aa af al ad ae ai au az cc)))
      | (refine aL _ (by simp(disch:=omega) [bH,b7,s1,s2,f0,f1,f2,f3,f4,f5,f6,f7,f8,f22];rfl) (fun I=>?_) (fun I=>?_)<;>first|(exfalso;simp(disch:=omega) [bH,b7,s1,s2] at I;done)|(exfalso;simp at I;omega)|(simp at I))
      | ((first|refine aH ?_|refine aQ ?_);simp(disch:=omega) [bH,b7,s1,s2,f0,f1,f2,f3,f4,f5,f6,f7,f8,f22,cK,cM]))
end
end
section
@[ext] structure Ser where
  c:Nat->Int
namespace Ser
def conv:Nat->(Nat->Int)->(Nat->Int)->Int
 | 0,f,g=>f 0*g 0
 | n+1,f,g=>f 0*g (n+1)+conv n (fun i=>f (i+1)) g
theorem A7:∀n f g h,conv n f (fun i=>g i+h i)=conv n f g+conv n f h
 | 0,f,g,h=>by simp only[conv];grind
 | n+1,f,g,h=>by simp only[conv];rw[A7 n];grind
theorem Ik:∀n f g,conv (n+1) f g=conv n f (fun i=>g (i+1))+f (n+1)*g 0
 | 0,f,g=>by simp only[conv]
 | n+1,f,g=>by
   rw[conv,Ik n,conv];grind
theorem tA:∀n f g,conv n f g=conv n g f
 | 0,f,g=>by simp only[conv];grind
 | n+1,f,g=>by rw[conv,Ik,tA n];grind
theorem Il (n f g h):conv n (fun i=>g i+h i) f=conv n g f+conv n h f:=by
 rw[tA,A7,tA n f g,tA n f h]
theorem Im:∀n c f g,conv n (fun i=>c*f i) g=c*conv n f g
 | 0,c,f,g=>by simp only[conv];grind
 | n+1,c,f,g=>by simp only[conv];rw[Im n c (fun i=>f (i+1))];grind
theorem Io:∀n f g h,conv n (fun k=>conv k f g) h=conv n f (fun k=>conv k g h)
 | 0,f,g,h=>by simp only[conv];grind
 | n+1,f,g,h=>by
   rw[conv]
   simp only[conv]
   rw[Il,Im,Io n]
   grind
theorem Ip:∀n f,conv n f (fun _=>0)=0
 | 0,f=>by simp only[conv];grind
 | n+1,f=>by simp only[conv];rw[Ip n];grind
def C (z:Int):Ser:=⟨fun i=>if i=0 then z else 0⟩
theorem Iq (n:Nat) (z:Int) (g:Nat->Int):conv n (C z).c g=z*g n:=by
 cases n with
 | zero=>simp[conv,C]
 | succ n=>
   rw[conv,tA]
   have:(fun i=>(C z).c (i+1))=fun _=>0:=by funext i;simp[C]
   rw[this,Ip]
   simp[C]
instance:Add Ser:=⟨fun f g=>⟨fun i=>f.c i+g.c i⟩⟩
instance:Mul Ser:=⟨fun f g=>⟨fun i=>conv i f.c g.c⟩⟩
instance:Neg Ser:=⟨fun f=>⟨fun i=> -f.c i⟩⟩
instance:Sub Ser:=⟨fun f g=>⟨fun i=>f.c i - g.c i⟩⟩
instance:NatCast Ser:=⟨fun n=>C n⟩
instance:IntCast Ser:=⟨C⟩
instance (n:Nat):OfNat Ser n:=⟨C n⟩
def npow (f:Ser):Nat->Ser
 | 0=>C 1
 | n+1=>npow f n*f
instance:HPow Ser Nat Ser:=⟨npow⟩
instance:SMul Nat Ser:=⟨fun n f=>(C n)*f⟩
instance:SMul Int Ser:=⟨fun n f=>(C n)*f⟩
theorem rI (f g:Ser) (i:Nat):(f+g).c i=f.c i+g.c i:=rfl
theorem SH (f g:Ser) (i:Nat):(f - g).c i=f.c i - g.c i:=rfl
theorem Ir (f:Ser) (i:Nat):(-f).c i= -f.c i:=rfl
theorem SI (f g:Ser) (i:Nat):(f*g).c i=conv i f.c g.c:=rfl
theorem ph (z:Int) (i:Nat):(C z).c i=if i=0 then z else 0:=rfl
theorem pj (z:Int) (f:Ser) (i:Nat):(C z*f).c i=z*f.c i:=Iq i z f.c
theorem SJ (a b:Int):C (a+b)=C a+C b:=by ext i;simp only[rI,ph];split<;>simp
theorem SK (a:Int):C (-a)= -C a:=by ext i;simp only[Ir,ph];split<;>simp
theorem A8 (a b:Int):C (a*b)=C a*C b:=by ext i;rw[pj];simp only[ph];split<;>simp
theorem xJ (f g:Ser):f*g=g*f:=by ext i;exact tA i f.c g.c
instance:Lean.Grind.CommRing Ser where
 nsmul:=inferInstance
 zsmul:=inferInstance
 add_zero a:=by ext i;show a.c i+(C 0).c i=a.c i;simp[ph]
 add_comm a b:=by ext i;simp only[rI];omega
 add_assoc a b c:=by ext i;simp only[rI];omega
 mul_assoc a b c:=by ext i;exact Io i a.c b.c c.c
 mul_one a:=by rw[xJ];ext i;show (C 1*a).c i=a.c i;rw[pj];simp
 left_distrib a b c:=by ext i;exact A7 i a.c b.c c.c
 zero_mul a:=by ext i;show (C 0*a).c i=(C 0).c i;rw[pj];simp[ph]
 pow_zero a:=rfl
 pow_succ a n:=rfl
 ofNat_succ n:=by show C ((n+1:Nat):Int)=C n+C 1;rw[<-SJ];rfl
 neg_add_cancel a:=by ext i;show -a.c i+a.c i=(C 0).c i;simp[ph];omega
 sub_eq_add_neg a b:=by ext i;show a.c i - b.c i=a.c i+ -b.c i;omega
 neg_zsmul n a:=by show C (-n)*a= -(C n*a);ext i;rw[Ir,pj,pj,Int.neg_mul]
 intCast_neg n:=SK n
 mul_comm:=xJ
 one_mul a:=by ext i;show (C 1*a).c i=a.c i;rw[pj];simp
 right_distrib a b c:=by ext i;exact Il i c.c a.c b.c
 mul_zero a:=by rw[xJ];ext i;show (C 0*a).c i=(C 0).c i;rw[pj];simp[ph]
theorem SL:C 0=0:=rfl
theorem Is (i:Nat):(0:Ser).c i=0:=by show (if i=0 then (0:Int) else 0)=0;split<;>rfl
def mono (n:Nat) (z:Int):Ser:=⟨fun i=>if i=n then z else 0⟩
theorem rJ (n:Nat) (z:Int) (i:Nat):(mono n z).c i=if i=n then z else 0:=rfl
theorem SM (z:Int):mono 0 z=C z:=rfl
def X:Ser:=mono 1 1
theorem It (f:Ser) (i:Nat):(X*f).c i=if i=0 then 0 else f.c (i - 1):=by
 rw[SI]
 cases i with
 | zero=>simp[conv,X,rJ]
 | succ i=>
   have e:(fun i=>X.c (i+1))=(C 1).c:=by
    funext i
    by_cases h:i=0<;>simp[X,rJ,ph,h]
   rw[conv,e,Iq]
   simp[X,rJ]
theorem SN (n:Nat) (z:Int):X*mono n z=mono (n+1) z:=by
 ext i
 rw[It,rJ,rJ]
 cases i with
 | zero=>simp
 | succ i=>simp
theorem xK:∀(n:Nat) (z:Int),mono n z=C z*X^n
 | 0,z=>by rw[SM];grind
 | n+1,z=>by rw[<-SN,xK n z];grind
end Ser
open Ser
def cg (l:List Int):Ser:=⟨fun i=>l.getD i 0⟩
theorem lU (l:List Int) (i:Nat):(cg l).c i=l.getD i 0:=rfl
theorem rK:cg []=0:=by ext i;rw[Is];rfl
theorem xL (x:Int) (l:List Int):cg (x::l)=C x+X*cg l:=by
 ext i
 rw[rI,It,ph,lU]
 cases i<;>simp[lU]
theorem SO {l:List Int} {i:Nat} (h:i<l.length) (v:Int):cg (l.set i v)=cg l+mono i (v - l.getD i 0):=by
 ext j
 rw[rI,rJ,lU,lU]
 by_cases e:i=j
 · subst e;simp[h];omega
 · simp[List.getElem?_set_ne e];rw[if_neg (by omega)];omega
theorem Iu (l:List Int) (i:Nat):cg (l.take (i+1))=cg (l.take i)+mono i (l.getD i 0):=by
 ext j
 rw[rI,rJ,lU,lU]
 simp only[List.getD_eq_getElem?_getD,List.getElem?_take]
 by_cases h:j<i
 · rw[if_pos (by omega),if_pos h,if_neg (by omega)];omega
 · by_cases e:j=i
   · subst e;simp
   · rw[if_neg (by omega),if_neg h,if_neg e];rfl
theorem SP (n:Nat):cg (List.replicate n 0)=0:=by
 ext i;rw[lU,Is];simp[List.getElem?_replicate];split<;>rfl
def en (l:List Int):Prop:=l= []\/l.getD (l.length - 1) 0≠0
theorem nq {a b:List Int} (bh:en a) (aj:en b) (h:cg a=cg b):a=b:=by
 have I:∀i,a.getD i 0=b.getD i 0:=fun i=>congrArg (fun s=>s.c i) h
 have aux:∀ {a b:List Int},en b->(∀i,a.getD i 0=b.getD i 0)->b.length<=a.length:=by
  intro a b aj I
  refine Nat.le_of_not_lt fun aV=>?_
  rcases aj with rfl|aj
  · simp at aV
  · apply aj;rw[<-I,List.getD_eq_getElem?_getD,List.getElem?_eq_none (by omega)];rfl
 have aV:a.length=b.length:=Nat.le_antisymm (aux bh fun i=>(I i).symm) (aux aj I)
 refine List.ext_getElem aV fun i ab h2=>?_
 have:=I i
 simpa[List.getD_eq_getElem?_getD,ab,h2] using this
def strip:List Int->List Int
 | []=>[]
 | x::l=>match strip l with
   | []=>if x=0 then [] else [x]
   | y::r=>x::y::r
theorem qh:∀l,cg (strip l)=cg l
 | []=>rfl
 | x::l=>by
   rw[xL,<-qh l,strip]
   cases h:strip l with
   | nil=>
     simp only
     split
     · rename_i ak;rw[ak,rK,SL];grind
     · rw[xL]
   | cons y r=>simp only;rw[xL x]
theorem qi:∀l,en (strip l)
 | []=> .inl rfl
 | x::l=>by
   rw[strip]
   have bC:=qi l
   cases h:strip l with
   | nil=>
     simp only
     split
     · exact .inl rfl
     · exact .inr (by simpa)
   | cons y r=>
     rw[h] at bC
     right
     rcases bC with bC|bC
     · cases bC
     · simpa using bC
theorem tB:∀l,(strip l).length<=l.length
 | []=>Nat.le_refl _
 | x::l=>by
   rw[strip]
   have bC:=tB l
   cases h:strip l with
   | nil=>simp only;split<;>simp
   | cons y r=>rw[h] at bC;simp only[List.length_cons] at*;omega
theorem SQ {l:List Int} (h:en l):strip l=l:=nq (qi l) h (qh l)
theorem Iv {a l:List Int} (h:en a) (e:cg a=cg l):strip l=a:=nq (qi l) h (by rw[qh,e])
end
section
open Ser Lean.Grind
attribute [local instance] Lean.Grind.Ring.intCast
section ev
variable {R:Type} [CommRing R]
def ev (y:R):List Int->R
 | []=>0
 | x::l=>(x:R)+y*ev y l
def aR (x y:R):Nat->List Int->R
 | _,[]=>0
 | n,c::l=>(c:R)*y^n+x*aR x y (n - 1) l
theorem SR (a b:Int):((a*b:Int):R)=(a:R)*(b:R):=Ring.intCast_mul a b
theorem Iw (y:R) (c:Int):∀a,ev y (a.map fun x=>c*x)=(c:R)*ev y a
 | []=>by simp only[List.map_nil,ev];grind
 | x::a=>by simp only[List.map_cons,ev,Iw y c a,SR];grind
theorem Ix (y:R) (n:Nat):∀m,y^(n+m)=y^n*y^m
 | 0=>by rw[Nat.add_zero,Semiring.pow_zero,Semiring.mul_one]
 | m+1=>by rw[<-Nat.add_assoc,Semiring.pow_succ,Ix y n m,Semiring.pow_succ];grind
end ev
theorem A9:∀l,cg l=ev X l
 | []=>rK
 | x::l=>by rw[xL,A9 l,ev];rfl
theorem Iy (c:Int) (a:List Int):cg (a.map fun x=>c*x)=C c*cg a:=by rw[A9,A9,Iw];rfl
def gD (a b:List Int):List Int:=strip ((List.range (max a.length b.length)).map fun i=>a.getD i 0+b.getD i 0)
def lV (a b:List Int):List Int:=strip ((List.range (max a.length b.length)).map fun i=>a.getD i 0 - b.getD i 0)
def cZ (a b:List Int):List Int:=strip ((List.range (a.length+b.length - 1)).map fun i=>conv i (cg a).c (cg b).c)
def qj (a:List Int) (c:Int):List Int:=strip (a.map fun x=>x*c)
theorem A_ (n:Nat) (f:Nat->Int) (i:Nat):((List.range n).map f).getD i 0=if i<n then f i else 0:=by
 simp only[List.getD_eq_getElem?_getD,List.getElem?_map]
 by_cases h:i<n
 · simp[h]
 · simp[h]
theorem pk {l:List Int} {i:Nat} (h:l.length<=i):l.getD i 0=0:=by simp[List.getD_eq_getElem?_getD,h]
theorem A' {n:Nat} {f:Nat->Int} {s:Ser} (ab:∀i,i<n->s.c i=f i) (h2:∀i,n<=i->s.c i=0):cg ((List.range n).map f)=s:=by
 ext i
 rw[lU,A_]
 split
 · exact(ab i ‹_›).symm
 · exact(h2 i (by omega)).symm
theorem tC (a b:List Int):cg (gD a b)=cg a+cg b:=by
 rw[gD,qh]
 refine A' (fun i _=>rfl) fun i h=>?_
 rw[rI,lU,lU,pk (by omega),pk (by omega)];rfl
theorem Ba (a b:List Int):cg (lV a b)=cg a - cg b:=by
 rw[lV,qh]
 refine A' (fun i _=>rfl) fun i h=>?_
 rw[SH,lU,lU,pk (by omega),pk (by omega)];rfl
theorem Bb {f g:Nat->Int}:∀n,(∀i,i<=n->f i=0\/g (n - i)=0)->conv n f g=0
 | 0,h=>by rcases h 0 (Nat.le_refl _) with h|h<;>simp_all[conv]
 | n+1,h=>by
   rw[conv]
   have bC:=Bb (f:=fun i=>f (i+1)) (g:=g) n fun i ag=>by
    have:=h (i+1) (by omega)
    rwa [show n+1 -(i+1)=n - i by omega] at this
   rw[bC]
   rcases h 0 (by omega) with h|h
   · rw[h];simp
   · rw[Nat.sub_zero] at h;rw[h];simp
theorem SS {a b:List Int} {i:Nat} (h:a.length+b.length<=i+1):conv i (cg a).c (cg b).c=0:=Bb i fun k aE=>by
 by_cases SU:a.length<=k
 · exact .inl (pk SU)
 · exact .inr (pk (by omega))
theorem k2 (a b:List Int):cg (cZ a b)=cg a*cg b:=by
 rw[cZ,qh]
 exact A' (fun i _=>rfl) fun i h=>SS (by omega)
theorem SV (a:List Int) (c:Int):cg (qj a c)=C c*cg a:=by
 rw[qj,qh,<-Iy]
 congr 2;funext x;exact Int.mul_comm ..
theorem xM (a b:List Int):en (gD a b):=qi _
theorem Bc (a b:List Int):en (lV a b):=qi _
theorem oC (a b:List Int):en (cZ a b):=qi _
theorem SW (a:List Int) (c:Int):en (qj a c):=qi _
theorem Iz {f g:Nat->Int}:∀n m,(∀i,n<i->f i=0)->(∀i,m<i->g i=0)->conv (n+m) f g=f n*g m
 | 0,m,bI,bp=>by
   rw[Nat.zero_add]
   cases m with
   | zero=>rfl
   | succ m=>rw[conv,Bb m fun i _=> .inl (bI _ (by omega))];simp
 | n+1,m,bI,bp=>by
   rw[show n+1+m=n+m+1 by omega,conv,bp (n+m+1) (by omega),Iz (f:=fun i=>f (i+1)) n m (fun i ag=>bI _ (by omega)) bp]
   simp
def lead (a:List Int):Int:=a.getD (a.length - 1) 0
theorem tD {a:List Int} (h:en a) (h2:a≠ []):lead a≠0:=h.resolve_left h2
theorem IA {a b:List Int} (bh:a≠ []) (aj:b≠ []):conv (a.length+b.length - 2) (cg a).c (cg b).c=lead a*lead b:=by
 have ab:=List.length_pos_iff.2 bh
 have h2:=List.length_pos_iff.2 aj
 rw[show a.length+b.length - 2=(a.length - 1)+(b.length - 1) by omega]
 exact Iz _ _ (fun i ag=>pk (by omega)) fun i ag=>pk (by omega)
theorem SX {l:List Int} (h:l.getD (l.length - 1) 0≠0):en l:= .inr h
theorem IB {a b:List Int} (bh:en a) (aj:en b) (dD:a≠ []) (c_:b≠ []):cZ a b=(List.range (a.length+b.length - 1)).map fun i=>conv i (cg a).c (cg b).c:=by
 have ab:=List.length_pos_iff.2 dD
 have h2:=List.length_pos_iff.2 c_
 refine SQ (SX ?_)
 rw[List.length_map,List.length_range,A_,if_pos (by omega),show a.length+b.length - 1 - 1=a.length+b.length - 2 by omega,IA dD c_]
 exact Int.mul_ne_zero (tD bh dD) (tD aj c_)
theorem IC {a b:List Int} (bh:en a) (aj:en b) (dD:a≠ []) (c_:b≠ []):(cZ a b).length=a.length+b.length - 1:=by
 rw[IB bh aj dD c_];simp
theorem SY {a b:List Int} (bh:en a) (aj:en b) (dD:a≠ []) (c_:b≠ []):lead (cZ a b)=lead a*lead b:=by
 have ab:=List.length_pos_iff.2 dD
 have h2:=List.length_pos_iff.2 c_
 rw[lead,IC bh aj dD c_,IB bh aj dD c_,A_,if_pos (by omega),show a.length+b.length - 1 - 1=a.length+b.length - 2 by omega,IA dD c_]
theorem xN (b:List Int):cZ [] b= []:=nq (oC _ _) (.inl rfl) (by rw[k2,rK];grind)
theorem xO (b:List Int):cZ b []= []:=nq (oC _ _) (.inl rfl) (by rw[k2,rK];grind)
end
section
open Ser Lean.Grind
attribute [local instance] Lean.Grind.Ring.intCast
theorem SZ {l:List Int} {i:Nat} (h:l.length<=i):(cg l).c i=0:=pk h
def exact(a b:Int):Option Int:=if b≠0/\b∣a then some (a/b) else none
end
section
open Ser Lean.Grind
def cx (p:List Int):Nat:=p.foldl (fun g c=>Nat.gcd g c.natAbs) 0
theorem Bd:∀(p:List Int) (g:Nat),p.foldl (fun g c=>Nat.gcd g c.natAbs) g=Nat.gcd g (cx p)
 | [],g=>by simp[cx]
 | x::p,g=>by
   rw[cx,List.foldl_cons,List.foldl_cons,Bd p,Bd p,Nat.gcd_zero_left,Nat.gcd_assoc]
theorem vr:cx []=0:=rfl
theorem Be (x:Int) (p:List Int):cx (x::p)=Nat.gcd x.natAbs (cx p):=by
 rw[cx,List.foldl_cons,Nat.gcd_zero_left,Bd]
theorem rL {d:Nat}:∀ {p:List Int},d∣cx p↔∀i,(d:Int)∣p.getD i 0
 | []=>by simp[vr]
 | x::p=>by
   rw[Be,Nat.dvd_gcd_iff,rL (p:=p),<-Int.ofNat_dvd_left]
   constructor
   · rintro ⟨h,k⟩ i
     cases i with
     | zero=>exact h
     | succ i=>exact k i
   · exact fun h=>⟨h 0,fun i=>h (i+1)⟩
theorem tE (p:List Int) (i:Nat):(cx p:Int)∣p.getD i 0:=rL.1 (Nat.dvd_refl _) i
theorem S0 {p:List Int} (i:Nat) (h:p.getD i 0≠0):cx p<=(p.getD i 0).natAbs:=Nat.le_of_dvd (by omega) (Int.ofNat_dvd_left.1 (tE p i))
theorem ID {p:List Int}:cx p=0↔∀i,p.getD i 0=0:=by
 constructor
 · intro h i
   have:=tE p i
   rw[h] at this
   simpa using this
 · intro h
   have:cx p∣0/\0∣cx p:=⟨Nat.dvd_zero _,rL.2 fun i=>by rw[h];exact Int.dvd_refl _⟩
   exact Nat.eq_zero_of_zero_dvd this.2
theorem xP {p:List Int} (h:en p) (aJ:p≠ []):0<cx p:=by
 refine Nat.pos_of_ne_zero fun aP=>?_
 exact tD h aJ (ID.1 aP _)
theorem S1 {a b:List Int} (h:cg a=cg b):cx a=cx b:=by
 have I:∀i,a.getD i 0=b.getD i 0:=fun i=>congrArg (fun s=>s.c i) h
 exact Nat.dvd_antisymm (rL.2 fun i=>by rw[<-I];exact tE a i) (rL.2 fun i=>by rw[I];exact tE b i)
theorem S2 (c:Int) (a:List Int):cx (a.map fun x=>c*x)=c.natAbs*cx a:=by
 induction a with
 | nil=>rfl
 | cons x a bC=>rw[List.map_cons,Be,bC,Be,Int.natAbs_mul,Nat.gcd_mul_left]
def rM (c:Int) (p:List Int):List Int:=p.map fun x=>x/c
theorem IE (c:Int) (p:List Int):(rM c p).length=p.length:=by simp[rM]
theorem xQ (c:Int) (p:List Int) (i:Nat):(rM c p).getD i 0=p.getD i 0/c:=by
 simp only[rM,List.getD_eq_getElem?_getD,List.getElem?_map]
 cases p[i]? <;>simp
theorem S3 {c:Int} {p:List Int} (h:∀i,c∣p.getD i 0):C c*cg (rM c p)=cg p:=by
 ext i
 rw[pj,lU,lU,xQ]
 exact Int.mul_ediv_cancel' (h i)
theorem S4 {c:Int} {p:List Int} (a4:en p) (h:∀i,c∣p.getD i 0):en (rM c p):=by
 rcases a4 with rfl|a4
 · exact .inl rfl
 · right
   rw[IE,xQ]
   intro aJ
   have:=Int.mul_ediv_cancel' (h (p.length - 1))
   rw[aJ] at this
   simp at this
   exact a4 this.symm
def fk (p:List Int):Int:=if lead p<0 then -(cx p:Int) else cx p
theorem vt (p:List Int):(fk p).natAbs=cx p:=by rw[fk];split<;>omega
theorem xR (p:List Int) (i:Nat):fk p∣p.getD i 0:=by
 have:=tE p i
 rw[fk];split
 · exact Int.neg_dvd.2 this
 · exact this
def dF (p:List Int):List Int:=rM (fk p) p
theorem nX (p:List Int):C (fk p)*cg (dF p)=cg p:=S3 (xR p)
theorem IF {p:List Int} (h:en p):en (dF p):=S4 h (xR p)
theorem Bf (p:List Int):(dF p).length=p.length:=IE _ _
theorem Bg {p:List Int} (h:en p) (aJ:p≠ []):fk p≠0:=by
 have:=xP h aJ
 rw[fk];split<;>omega
theorem IG {a p:List Int} {c:Int} (h:cg p=C c*cg a):cx p=c.natAbs*cx a:=by
 rw[S1 (b:=a.map fun x=>c*x) (by rw[h,Iy]),S2]
theorem Bh {p:List Int} (h:en p) (aJ:p≠ []):cx (dF p)=1:=by
 have:=IG (nX p).symm
 rw[vt] at this
 have:=xP h aJ
 exact Nat.eq_of_mul_eq_mul_left this (by omega)
theorem S5 {p:List Int} (h:en p) (aJ:p≠ []):0<lead (dF p):=by
 have e:lead p=fk p*lead (dF p):=by
  rw[lead,lead,Bf,dF,xQ]
  exact(Int.mul_ediv_cancel' (xR p _)).symm
 have ab:=tD h aJ
 have h2:=xP h aJ
 rw[fk] at e
 split at e
 · refine Int.lt_of_not_ge fun ar=>?_
   have:=Int.mul_nonneg (a:= -(-(cx p:Int))) (b:= -lead (dF p)) (by omega) (by omega)
   grind
 · refine Int.lt_of_not_ge fun ar=>?_
   have:=Int.mul_nonneg (a:=(cx p:Int)) (b:= -lead (dF p)) (by omega) (by omega)
   have:lead p<=0:=by grind
   omega
def rN (p:Nat):Prop:=2<=p/\∀d,d∣p->d=1\/d=p
theorem S6:∀(n:Nat),2<=n->∃p,rN p/\p∣n:=by
 intro n
 induction n using Nat.strongRecOn with
 | _ n bC=>
   intro h
   by_cases a4:rN n
   · exact⟨n,a4,Nat.dvd_refl _⟩
   · have:∃d,d∣n/\d≠1/\d≠n:=Classical.byContradiction fun ar=>a4 ⟨h,fun d bA=>Classical.byContradiction fun I=>ar ⟨d,bA,fun e=>I (.inl e),fun e=>I (.inr e)⟩⟩
     obtain⟨d,bA,ab,h2⟩:=this
     have:=Nat.le_of_dvd (by omega) bA
     have:d≠0:=fun e=>by subst e;rw[Nat.zero_dvd] at bA;omega
     obtain⟨p,a4,S7⟩:=bC d (by omega) (by omega)
     exact⟨p,a4,Nat.dvd_trans S7 bA⟩
theorem rN.dvd_mul {p a b:Nat} (a4:rN p) (h:p∣a*b):p∣a\/p∣b:=by
 rcases a4.2 _ (Nat.gcd_dvd_left p a) with ab|ab
 · exact .inr (Nat.Coprime.dvd_of_dvd_mul_left ab h)
 · left;rw[<-ab];exact Nat.gcd_dvd_right p a
theorem rN.S8 {p:Nat} {a b:Int} (a4:rN p) (h:(p:Int)∣a*b):(p:Int)∣a\/(p:Int)∣b:=by
 rw[Int.ofNat_dvd_left,Int.natAbs_mul] at h
 rw[Int.ofNat_dvd_left,Int.ofNat_dvd_left]
 exact a4.dvd_mul h
theorem IH {p:Nat} {f:Nat->Int} (h:∃i,¬(p:Int)∣f i):∃i,¬(p:Int)∣f i/\∀j,j<i->(p:Int)∣f j:=by
 obtain⟨i,ag⟩:=h
 induction i using Nat.strongRecOn with
 | _ i bC=>
   by_cases aZ:∃j,j<i/\¬(p:Int)∣f j
   · obtain⟨j,aZ,ar⟩:=aZ
     exact bC j aZ ar
   · exact⟨i,ag,fun j pP=>Classical.byContradiction fun ar=>aZ ⟨j,pP,ar⟩⟩
theorem II {p:Int} {f g:Nat->Int}:∀n,(∀i,i<=n->p∣f i\/p∣g (n - i))->p∣conv n f g
 | 0,h=>by
   rcases h 0 (Nat.le_refl _) with h|h
   · exact Int.dvd_mul_of_dvd_left h
   · exact Int.dvd_mul_of_dvd_right h
 | n+1,h=>by
   rw[conv]
   refine Int.dvd_add ?_ (II n fun i ag=>by have:=h (i+1) (by omega);rwa [show n+1 -(i+1)=n - i by omega] at this)
   rcases h 0 (by omega) with h|h
   · exact Int.dvd_mul_of_dvd_left h
   · exact Int.dvd_mul_of_dvd_right h
theorem IJ {p:Int} {f g:Nat->Int}:∀n m,(∀i,i<n->p∣f i)->(∀i,i<m->p∣g i)->p∣conv (n+m) f g - f n*g m
 | 0,m,bI,bp=>by
   rw[Nat.zero_add]
   cases m with
   | zero=>rw[conv];simp
   | succ m=>
     rw[conv,show f 0*g (m+1)+conv m (fun i=>f (i+1)) g - f 0*g (m+1)=conv m (fun i=>f (i+1)) g by omega]
     exact II m fun i _=> .inr (bp _ (by omega))
 | n+1,m,bI,bp=>by
   rw[show n+1+m=n+m+1 by omega,conv]
   have bC:=IJ (p:=p) (f:=fun i=>f (i+1)) n m (fun i ag=>bI _ (by omega)) bp
   have aJ:p∣f 0*g (n+m+1):=Int.dvd_mul_of_dvd_left (bI 0 (by omega))
   have:=Int.dvd_add aJ bC
   rwa [<-Int.add_sub_assoc] at this
theorem S9 {a b:List Int} (bh:cx a=1) (aj:cx b=1):cx (cZ a b)=1:=by
 refine Classical.byContradiction fun ar=>?_
 have aJ:cx (cZ a b)≠0\/cx (cZ a b)=0:=by omega
 have:∃p,rN p/\p∣cx (cZ a b):=by
  by_cases aP:cx (cZ a b)=0
  · exact⟨2,⟨Nat.le_refl _,fun d bA=>by have:=Nat.le_of_dvd (by decide) bA;rcases d with _|_|_|d<;>simp_all⟩,by rw[aP];exact Nat.dvd_zero _⟩
  · exact S6 _ (by omega)
 obtain⟨p,a4,bA⟩:=this
 have aux:∀ {l:List Int},cx l=1->∃i,¬(p:Int)∣l.getD i 0:=fun {l} aV=>Classical.byContradiction fun I=>by
  have:p∣cx l:=rL.2 fun i=>Classical.byContradiction fun ar=>I ⟨i,ar⟩
  rw[aV,Nat.dvd_one] at this
  have:=a4.1;omega
 obtain⟨i,ag,oq⟩:=IH (aux bh)
 obtain⟨j,aZ,S_⟩:=IH (aux aj)
 have ab:=IJ (p:=p) (f:=fun i=>a.getD i 0) (g:=fun i=>b.getD i 0) i j oq S_
 have h2:(p:Int)∣conv (i+j) (fun i=>a.getD i 0) (fun i=>b.getD i 0):=by
  have aX:=rL.1 bA (i+j)
  have:(cZ a b).getD (i+j) 0=(cg a*cg b).c (i+j):=by rw[<-k2];rfl
  rwa [this] at aX
 have aW:=Int.dvd_sub h2 ab
 rw[Int.sub_sub_self] at aW
 rcases a4.S8 aW with h|h
 · exact ag h
 · exact aZ h
theorem IK {a b:List Int} (bh:en a) (aj:en b):cx (cZ a b)=cx a*cx b:=by
 by_cases dD:a= []
 · subst dD;rw[xN,vr,Nat.zero_mul]
 by_cases c_:b= []
 · subst c_;rw[xO,vr,Nat.mul_zero]
 have h:=S9 (Bh bh dD) (Bh aj c_)
 have e:cg (cZ a b)=C (fk a*fk b)*cg (cZ (dF a) (dF b)):=by
  rw[k2,k2,A8,<-nX a,<-nX b]
  rw[nX,nX,<-nX a,<-nX b]
  generalize cg (dF a)=u
  generalize cg (dF b)=v
  grind
 rw[IG e,h,Int.natAbs_mul,vt,vt,Nat.mul_one]
theorem S' {x y:Int} (ak:x≠0) (bd:y≠0):(x*y<0)↔(decide (x<0)≠decide (y<0)):=by
 rcases Int.lt_or_gt_of_ne ak with h|h<;>rcases Int.lt_or_gt_of_ne bd with h2|h2
 · have:=Int.mul_pos_of_neg_of_neg h h2;simp[h,h2];omega
 · have:=Int.mul_neg_of_neg_of_pos h h2;simp[h,this,Int.not_lt.2 (Int.le_of_lt h2)]
 · have:=Int.mul_neg_of_pos_of_neg h h2;simp[h2,this,Int.not_lt.2 (Int.le_of_lt h)]
 · have:=Int.mul_pos h h2;simp[Int.not_lt.2 (Int.le_of_lt h),Int.not_lt.2 (Int.le_of_lt h2)];omega
theorem IL {a b:List Int} (bh:en a) (aj:en b) (dD:a≠ []) (c_:b≠ []):fk (cZ a b)=fk a*fk b:=by
 have h:=S' (tD bh dD) (tD aj c_)
 rw[fk,IK bh aj,SY bh aj dD c_,fk,fk]
 by_cases ab:lead a<0<;>by_cases h2:lead b<0<;>simp only[ab,h2,decide_true,decide_false] at h<;>simp[h,ab,h2]<;>grind
theorem Ta {c:Int} (I:c≠0) {f g:Ser} (h:C c*f=C c*g):f=g:=by
 ext i
 have:=congrArg (fun s=>s.c i) h
 simp only[pj] at this
 exact Int.eq_of_mul_eq_mul_left I this
theorem Tb {a b:List Int} (bh:en a) (aj:en b):dF (cZ a b)=cZ (dF a) (dF b):=by
 by_cases dD:a= []
 · subst dD;rw[xN,show dF []= [] from rfl,xN]
 by_cases c_:b= []
 · subst c_;rw[xO,show dF []= [] from rfl,xO]
 refine nq (IF (oC _ _)) (oC _ _) ?_
 have aJ:fk (cZ a b)≠0:=by rw[IL bh aj dD c_];exact Int.mul_ne_zero (Bg bh dD) (Bg aj c_)
 refine Ta aJ ?_
 rw[nX,k2,k2,IL bh aj dD c_,A8]
 have ab:=nX a
 have h2:=nX b
 generalize cg (dF a)=u at*
 generalize cg (dF b)=v at*
 rw[<-ab,<-h2]
 grind
end
section
set_option maxHeartbeats 8000000
open Go Go.Eng Go.RowKit
attribute [local simp] bx.m bx.o bx.n bx.g gZ eQ df c7 dj evalOp.eq_1 evalOp.eq_2 evalOp.eq_3 evalOp.eq_4 evalOp.eq_5 evalOp.eq_6 evalOp.eq_7 evalOp.eq_8 evalOp.eq_9 evalOp.eq_10 evalOp.eq_11 evalOp.eq_12 evalOp.eq_13 evalOp.eq_14 evalOp.eq_15 evalOp.eq_16 evalOp.eq_17 evalOp.eq_18 evalOp.eq_19 evalOp.eq_20 evalOp.eq_21 evalOp.eq_22 evalOp.eq_23 evalOp.eq_24 evalOp.eq_25 evalOp.eq_27 evalOp.eq_28 evalOp.eq_29 jK bf.ev c6 aF aA.new bj J.cells J.c0 J.ew J.eA hF hH hG hI hK hJ iX iY iZ gm gn cut partOf bound elems ja jb jc jd je jf jg jh ji jj jk jl g2 jm jn jo jq jr js jt ju jv jw jx jy jz jA jB jC jD jE jF jG jH jI jJ eP eJ eB fA hL g0 aA.close aA.set hr jL jM jN i' g1 gv fT fs gf hn gM gg ho hp hq fx fy fz fv hM bY hj hN hk hO hP fq hQ fr hR hS hT gd iW hU hV hW hX hY hZ h0 h1 h3 h4 h5 h6 h7 h8 h9 h_ h' ia ib hl ic ie ig ih ij ik il im iq ir iu iv iw ix iy
attribute [local simp high] iT iU iV iz iA iB iC iD iE iF iG iH iI iJ iK iL iM iN iO iP iQ iR iS
attribute [local simp] aJ List.getElem?_cons_zero List.getElem?_cons_succ eH dp fP Nat.mod_eq_of_lt jY jZ j0 j1 fU j2 j3 j4
section
attribute [local irreducible] ck
attribute [local simp] ed ef dm
noncomputable def IM:FuncId->Option (List J->Option J):=dn [(87,sW)]
theorem Bi:∀f T,IM f=some T->br Tryz.prog G f T:=dr (by simp only[List.forall_mem_cons];exact⟨GN,fun _ h=>absurd h (by simp)⟩)
theorem Tc:IM 87=some sW:=rfl
attribute [local simp] Tc
theorem pn {l:List Int} {i:Nat} (h:i<l.length):(l.map fun z=>bk z)[i]? =some (bk (l.getD i 0)):=by
 simp[h,List.getD_eq_getElem?_getD]
noncomputable def xS:List J->Option J:=cd (fun z:List Int × Nat=>z.2<4611686018427387904/\z.1.length<=1000000) (fun z=>[bF z.1 false,bt z.2]) (fun z=>bk (z.1.getD z.2 0))
theorem IN (z:List Int × Nat) (h:z.2<4611686018427387904/\z.1.length<=1000000) {args:List J} (he:args.map J.loose= [bF z.1 false,bt z.2]):xS args=some (bk (z.1.getD z.2 0)):=cU (fun z w h=>by first|(simp only[List.cons.injEq,J.int.injEq,J.bool.injEq,J.sl.injEq,cl,cm,ct,cu,cp,b2,b6,cn,bY,true_and,and_true] at h;simp[h];done)|(simp only[J.agg.injEq,List.cons.injEq,J.int.injEq,J.bool.injEq,J.sl.injEq,cl,cm,ct,cu,cp,b2,b6,cn,bY,true_and,and_true] at h;simp[h])) z h he
theorem Td:br Tryz.prog G 208 xS:=by
 refine cG mixed Bi Nd fun z aP=>?_
 obtain⟨l,i⟩:=z
 obtain⟨ag,aV⟩:=aP
 simp only at ag aV|-
 unfold i208
 by_cases h:i<l.length
 · have g:=pn h
   generalize l.getD i 0=c at*
   refine ao [0,1,4,8] fun F=>?_
   simp only[an]
   intro f0 f1 f4 f8
   simp[bj] at f0 f1 f4 f8
   repeat' (first
    | refine aC ?_
    | ((fail_if_success (refine aT ?_));(fail_if_success (refine aU ?_));refine aO ?_)
    | ((first|(refine aD aN ?_;simp(disch:=omega) [h,g,f0,f1,f4,f8];(try(refine⟨by first|decide|rfl,?_⟩)))|(refine aM ?_;simp(disch:=omega) [h,g,f0,f1,f4,f8]));(try(refine ao [0,1,4,8] ?_;intro F;simp only[an];intro U aa ad az;simp(disch:=omega) [h,g,f0,f1,f4,f8] at U aa ad az;clear f0 f1 f4 f8;have f0:=U;have f1:=aa;have f4:=ad;have f8:=az;clear U aa ad az)))
    | (refine aL _ (by simp(disch:=omega) [h,g,f0,f1,f4,f8];rfl) (fun I=>?_) (fun I=>?_)<;>first|(exfalso;simp(disch:=omega) [h,g] at I;done)|(exfalso;simp at I;omega)|(simp at I))
    | ((first|refine aH ?_|refine aQ ?_);simp(disch:=omega) [h,g,f0,f1,f4,f8]))
 · have e:l.getD i 0=0:=by simp[List.getD_eq_getElem?_getD,show l.length<=i by omega]
   rw[e]
   have cK:ah 0= []:=fu
   have cM:bK 0=false:=rfl
   refine ao [0,1,4,8] fun F=>?_
   simp only[an]
   intro f0 f1 f4 f8
   simp[bj] at f0 f1 f4 f8
   repeat' (first
    | refine aC ?_
    | ((fail_if_success (refine aT ?_));(fail_if_success (refine aU ?_));refine aO ?_)
    | ((first|(refine aD aN ?_;simp(disch:=omega) [h,f0,f1,f4,f8];(try(refine⟨by first|decide|rfl,?_⟩)))|(refine aM ?_;simp(disch:=omega) [h,f0,f1,f4,f8]));(try(refine ao [0,1,4,8] ?_;intro F;simp only[an];intro U aa ad az;simp(disch:=omega) [h,f0,f1,f4,f8] at U aa ad az;clear f0 f1 f4 f8;have f0:=U;have f1:=aa;have f4:=ad;have f8:=az;clear U aa ad az)))
    | (refine aL _ (by simp(disch:=omega) [h,f0,f1,f4,f8];rfl) (fun I=>?_) (fun I=>?_)<;>first|(exfalso;simp(disch:=omega) [h] at I;done)|(exfalso;simp at I;omega)|(simp at I))
    | ((first|refine aH ?_|refine aQ ?_);simp(disch:=omega) [h,f0,f1,f4,f8,cK,cM]))
theorem Te {n:Nat} (h:n<=1000000):IntKind.i64.wrap (Z n - Z 1)=(n:Int) - 1:=by rw[wrap_i64 (by simp only[Z];omega) (by simp only[Z];omega)];rfl
noncomputable def Bj:List J->Option J:=cd (fun z:List Int=>z.length<=1000000) (fun z=>[bF z false]) (fun z=> .int .i64 ((z.length:Int) - 1))
theorem Tf:br Tryz.prog G 62 Bj:=by
 refine cG mixed Bi Ev fun l aV=>?_
 have e:=Te aV
 unfold i62
 refine ao [0,2] fun F=>?_
 simp only[an]
 intro f0 f2
 simp[bj] at f0 f2
 repeat' (first
  | refine aC ?_
  | ((fail_if_success (refine aT ?_));(fail_if_success (refine aU ?_));refine aO ?_)
  | ((first|(refine aD aN ?_;simp(disch:=omega) [e,f0,f2];(try(refine⟨by first|decide|rfl,?_⟩)))|(refine aM ?_;simp(disch:=omega) [e,f0,f2]));(try(refine ao [0,2] ?_;intro F;simp only[an];intro U af;simp(disch:=omega) [e,f0,f2] at U af;clear f0 f2;have f0:=U;have f2:=af;clear U af)))
  | (refine aL _ (by simp(disch:=omega) [e,f0,f2];rfl) (fun I=>?_) (fun I=>?_)<;>first|(exfalso;simp(disch:=omega) [e] at I;done)|(exfalso;simp at I;omega)|(simp at I))
  | ((first|refine aH ?_|refine aQ ?_);simp(disch:=omega) [e,f0,f2]))
theorem Tg {l:List Int} {m:Nat} (hm:m<=l.length) (aP:∀i,m<=i->l.getD i 0=0) (he:m=0\/l.getD (m - 1) 0≠0):l.take m=strip l:=by
 have aV:(l.take m).length=m:=by rw[List.length_take];omega
 have bp:∀i,(l.take m).getD i 0=l.getD i 0:=fun i=>by
  by_cases h:i<m
  · simp[List.getD_eq_getElem?_getD,h]
  · rw[aP i (by omega),List.getD_eq_getElem?_getD,List.getElem?_eq_none (by omega)];rfl
 refine(Iv ?_ ?_).symm
 · rcases he with rfl|he
   · exact .inl (by simp)
   · right;rw[aV,bp];exact he
 · ext i;exact bp i
noncomputable def xT:List J->Option J:=cd (fun z:List Int=>z.length<=1000000) (fun z=>[bF z false]) (fun z=>bF (strip z) false)
theorem IP (z:List Int) (h:z.length<=1000000) {args:List J} (he:args.map J.loose= [bF z false]):xT args=some (bF (strip z) false):=cU (fun z w h=>by first|(simp only[List.cons.injEq,J.int.injEq,J.bool.injEq,J.sl.injEq,cl,cm,ct,cu,cp,b2,b6,cn,bY,true_and,and_true] at h;simp[h];done)|(simp only[J.agg.injEq,List.cons.injEq,J.int.injEq,J.bool.injEq,J.sl.injEq,cl,cm,ct,cu,cp,b2,b6,cn,bY,true_and,and_true] at h;simp[h])) z h he
theorem Th:br Tryz.prog G 64 xT:=by
 refine cG mixed Bi Ew fun l aV=>?_
 unfold i64
 refine ao [0,2,3,16] fun F=>?_
 simp only[an]
 intro f0 f2 f3 f16
 simp[bj] at f0 f2 f3 f16
 repeat' (first
  | refine aC ?_
  | ((fail_if_success (refine aT ?_));(fail_if_success (refine aU ?_));refine aO ?_)
  | ((first|(refine aD aN ?_;simp(disch:=omega) [f0,f2,f3,f16];(try(refine⟨by first|decide|rfl,?_⟩)))|(refine aM ?_;simp(disch:=omega) [f0,f2,f3,f16]));(try(refine ao [0,2,3,16] ?_;intro F;simp only[an];intro U af al b9;simp(disch:=omega) [f0,f2,f3,f16] at U af al b9;clear f0 f2 f3 f16;have f0:=U;have f2:=af;have f3:=al;have f16:=b9;clear U af al b9)))
  | (refine aL _ (by simp(disch:=omega) [f0,f2,f3,f16];rfl) (fun I=>?_) (fun I=>?_)<;>first|(exfalso;simp(disch:=omega) at I;done)|(exfalso;simp at I;omega)|(simp at I))
  | ((first|refine aH ?_|refine aQ ?_);simp(disch:=omega) [f0,f2,f3,f16]))
 refine oh (fun m s=>m<=l.length/\(∀i,m<=i->l.getD i 0=0)/\s.F 3=bt m) (fun s=>∃m,m<=l.length/\(∀i,m<=i->l.getD i 0=0)/\(m=0\/l.getD (m - 1) 0≠0)/\s.F 3=bt m) (fun _=>False) l.length ?_ ?_ ?_ (fun _ _ h=>h.elim)
 · exact⟨Nat.le_refl _,fun i ag=>by simp[List.getD_eq_getElem?_getD,ag],by first|rfl|exact f3⟩
 · rintro m s aE ⟨hm,aP,e6⟩
   replace f0:=(aE 0 rfl).trans f0
   clear f3
   have f3:=e6
   refine ao [0,3,16] ?_
   intro F
   simp only[an]
   intro U al b9
   try simp[aJ,f0,f3] at U al b9
   clear f0 f3
   have f0:=U
   have f3:=al
   have f16:=b9
   clear U al b9
   cases m with
   | zero=>
     repeat' (first
      | refine aC ?_
      | ((fail_if_success (refine aT ?_));(fail_if_success (refine aU ?_));refine aO ?_)
      | ((first|(refine aD aN ?_;simp(disch:=omega) [f0,f3,f16];(try(refine⟨by first|decide|rfl,?_⟩)))|(refine aM ?_;simp(disch:=omega) [f0,f3,f16]));(try(refine ao [0,3,16] ?_;intro F;simp only[an];intro U al b9;simp(disch:=omega) [f0,f3,f16] at U al b9;clear f0 f3 f16;have f0:=U;have f3:=al;have f16:=b9;clear U al b9)))
      | (refine aL _ (by simp(disch:=omega) [f0,f3,f16];rfl) (fun I=>?_) (fun I=>?_)<;>first|(exfalso;simp(disch:=omega) at I;done)|(exfalso;simp at I;omega)|(simp at I))
      | ((first|refine aH ?_|refine aQ ?_);simp(disch:=omega) [f0,f3,f16]))
     exact⟨0,by omega,aP,.inl rfl,by first|rfl|exact f3⟩
   | succ m=>
     have go:=pn (show m<l.length by omega)
     have hw:IntKind.i64.wrap (Z (m+1) - Z 1)=Z m:=by rw[dp (by omega) (by omega)];rfl
     have eL:0<m+1:=by omega
     have b7:=GM (l.getD m 0) trivial (args:=[bk (l.getD m 0)]) (by simp)
     obtain⟨c,m3⟩:∃c,c=l.getD m 0:=⟨_,rfl⟩
     rw[<-m3] at go b7
     by_cases ak:c=0
     · have k8:j8 c=Z 0:=by rw[ak];rfl
       rw[k8] at b7
       repeat' (first
        | refine aC ?_
        | ((fail_if_success (refine aT ?_));(fail_if_success (refine aU ?_));refine aO ?_)
        | ((first|(refine aD aN ?_;simp(disch:=omega) [go,hw,eL,b7,f0,f3,f16];(try(refine⟨by first|decide|rfl,?_⟩)))|(refine aM ?_;simp(disch:=omega) [go,hw,eL,b7,f0,f3,f16]));(try(refine ao [0,3,16] ?_;intro F;simp only[an];intro U al b9;simp(disch:=omega) [go,hw,eL,b7,f0,f3,f16] at U al b9;clear f0 f3 f16;have f0:=U;have f3:=al;have f16:=b9;clear U al b9)))
        | (refine aL _ (by simp(disch:=omega) [go,hw,eL,b7,f0,f3,f16];rfl) (fun I=>?_) (fun I=>?_)<;>first|(exfalso;simp(disch:=omega) [go,hw,eL,b7] at I;done)|(exfalso;simp at I;omega)|(simp at I))
        | ((first|refine aH ?_|refine aQ ?_);simp(disch:=omega) [go,hw,eL,b7,f0,f3,f16]))
       refine⟨m,by omega,by omega,fun i ag=>?_,by first|rfl|exact f3⟩
       by_cases e:i=m
       · subst e;exact m3.symm.trans ak
       · exact aP i (by omega)
     · obtain⟨s1,s2⟩:=A6 ak
       generalize j8 c=Ij at*
       repeat' (first
        | refine aC ?_
        | ((fail_if_success (refine aT ?_));(fail_if_success (refine aU ?_));refine aO ?_)
        | ((first|(refine aD aN ?_;simp(disch:=omega) [go,hw,eL,b7,s1,s2,f0,f3,f16];(try(refine⟨by first|decide|rfl,?_⟩)))|(refine aM ?_;simp(disch:=omega) [go,hw,eL,b7,s1,s2,f0,f3,f16]));(try(refine ao [0,3,16] ?_;intro F;simp only[an];intro U al b9;simp(disch:=omega) [go,hw,eL,b7,s1,s2,f0,f3,f16] at U al b9;clear f0 f3 f16;have f0:=U;have f3:=al;have f16:=b9;clear U al b9)))
        | (refine aL _ (by simp(disch:=omega) [go,hw,eL,b7,s1,s2,f0,f3,f16];rfl) (fun I=>?_) (fun I=>?_)<;>first|(exfalso;simp(disch:=omega) [go,hw,eL,b7,s1,s2] at I;done)|(exfalso;simp at I;omega)|(simp at I))
        | ((first|refine aH ?_|refine aQ ?_);simp(disch:=omega) [go,hw,eL,b7,s1,s2,f0,f3,f16]))
       exact⟨m+1,hm,aP,.inr (by rw[Nat.add_sub_cancel];exact fun h=>ak (m3.trans h)),by first|rfl|exact f3⟩
 · rintro s aE ⟨m,hm,aP,hh,e6⟩
   replace f0:=(aE 0 rfl).trans f0
   clear f3
   have f3:=e6
   have a7:=Tg hm aP hh
   have jP:List.take m (l.map fun z=>bk z)=(strip l).map fun z=>bk z:=by rw[<-List.map_take,a7]
   refine ao [0,2,3] ?_
   intro F
   simp only[an]
   intro U af al
   try simp[aJ,f0,f3] at U af al
   clear f0 f3
   have f0:=U
   have f2:=af
   have f3:=al
   clear U af al
   repeat' (first
    | refine aC ?_
    | ((fail_if_success (refine aT ?_));(fail_if_success (refine aU ?_));refine aO ?_)
    | ((first|(refine aD aN ?_;simp(disch:=omega) [hm,jP,f0,f2,f3];(try(refine⟨by first|decide|rfl,?_⟩)))|(refine aM ?_;simp(disch:=omega) [hm,jP,f0,f2,f3]));(try(refine ao [0,2,3] ?_;intro F;simp only[an];intro U af al;simp(disch:=omega) [hm,jP,f0,f2,f3] at U af al;clear f0 f2 f3;have f0:=U;have f2:=af;have f3:=al;clear U af al)))
    | (refine aL _ (by simp(disch:=omega) [hm,jP,f0,f2,f3];rfl) (fun I=>?_) (fun I=>?_)<;>first|(exfalso;simp(disch:=omega) [hm,jP] at I;done)|(exfalso;simp at I;omega)|(simp at I))
    | ((first|refine aH ?_|refine aQ ?_);simp(disch:=omega) [hm,jP,f0,f2,f3]))
end
section
attribute [local irreducible] ck
attribute [local simp] ed ef dm pa
noncomputable def fe:FuncId->Option (List J->Option J):=dn [(52,qc),(119,o8),(143,u7),(90,sX),(110,Ah),(86,AR),(208,xS),(62,Bj),(64,xT)]
theorem Bk:∀f T,fe f=some T->br Tryz.prog G f T:=dr (by simp only[List.forall_mem_cons];exact⟨AQ,Aj,PD,GO,Px,Rw,Td,Tf,Th,fun _ h=>absurd h (by simp)⟩)
theorem Bl:fe 52=some qc:=rfl
theorem Bm:fe 119=some o8:=rfl
theorem Bn:fe 143=some u7:=rfl
theorem Bo:fe 90=some sX:=rfl
theorem Bp:fe 110=some Ah:=rfl
theorem Bq:fe 86=some AR:=rfl
theorem Br:fe 208=some xS:=rfl
theorem Bs:fe 62=some Bj:=rfl
theorem Bt:fe 64=some xT:=rfl
theorem Bu:fe 108=none:=rfl
theorem Bv:fe 206=none:=rfl
theorem Bw:fe 140=none:=rfl
theorem Bx:fe 207=none:=rfl
theorem By:fe 117=none:=rfl
theorem Bz:fe 109=none:=rfl
theorem BA:fe 114=none:=rfl
theorem BB:fe 120=none:=rfl
theorem BC:fe 123=none:=rfl
theorem BD:fe 141=none:=rfl
theorem BE:fe 142=none:=rfl
theorem BF:fe 118=none:=rfl
theorem BG:fe 122=none:=rfl
theorem BH:fe 103=none:=rfl
theorem BI:fe 28=none:=rfl
attribute [local simp] Bl Bm Bn Bo Bp Bq Br Bs Bt Bu Bv Bw Bx By Bz BA BB BC BD BE BF BG BH BI
theorem Ti (Y:List c4) (g:aA) (aG:∀j,g.next<=j->g.shut j=false) {c:Nat} {k:Int} (I:g.cells c=some [bk k]) (g4:c<g.next) {i:Nat} {p:Int × Bool} (cP:cb p.1<=500000) (dR:cb k<=500000) (kC:min (cb p.1) (cb k)<48):
 ∃e9,fi G (bb Tryz.prog) fe Y (.fn 117) [bt i,gB p,.ptr c 0 0] g=some (gB (p.1*k,false),e9)/\Kept g e9:=by
 obtain⟨x,tF⟩:=p
 simp only at cP kC|-
 have t:=AP (x,k) ⟨cP,dR,kC⟩ (args:=[gB (x,tF),bk k]) (by simp)
 simp only at t
 generalize x*k=cq at*
 obtain⟨v,e9,e,rfl,K⟩:=kM (Φ:=bb Tryz.prog) (G:=G) (tab:=fe) (Y:=Y) (h:=g) (args:=[bt i,gB (x,tF),.ptr c 0 0]) (R:=fun v av=>v=gB (cq,false)/\Kept g av) MX (by
  unfold i117
  refine ao [1,2,4,5] fun F=>?_
  simp only[an]
  intro f1 f2 f4 f5
  simp[bj] at f1 f2 f4 f5
  repeat' (first
   | refine aC ?_
   | ((fail_if_success (refine aT ?_));(fail_if_success (refine aU ?_));refine aO ?_)
   | ((first|(refine aD cr ?_;simp(disch:=omega) [I,g4,t,aG,f1,f2,f4,f5];(try(refine⟨by first|decide|rfl,?_⟩)))|(refine aM ?_;simp(disch:=omega) [I,g4,t,aG,f1,f2,f4,f5]));(try(refine ao [1,2,4,5] ?_;intro F;simp only[an];intro aa af ad ae;simp(disch:=omega) [I,g4,t,aG,f1,f2,f4,f5] at aa af ad ae;clear f1 f2 f4 f5;have f1:=aa;have f2:=af;have f4:=ad;have f5:=ae;clear aa af ad ae)))
   | (refine aL _ (by simp(disch:=omega) [I,g4,t,aG,f1,f2,f4,f5];rfl) (fun I=>?_) (fun I=>?_)<;>first|(exfalso;simp(disch:=omega) [I,g4,t,aG] at I;done)|(exfalso;simp at I;omega)|(simp at I))
   | ((first|refine aH ?_|refine aQ ?_);simp(disch:=omega) [I,g4,t,aG,f1,f2,f4,f5]))
  try refine aH ?_
  simp[kL,f5]
  exact⟨by(try simp only);omega,fun j aZ=>by(try simp only[aF]);repeat (first|rfl|rw[if_neg (by omega)]),rfl,rfl⟩)
 exact⟨e9,e,K⟩
theorem Tj (Y:List c4) (g:aA) (aG:∀j,g.next<=j->g.shut j=false) {b c d:Nat} {f:FuncId} {T:List J->Option J} (cJ:fe f=some T) {x y:List Int} (aj:g.cells b=some [.fn f [] []]) (I:g.cells c=some [bF x false]) (bA:g.cells d=some [bF y false]) (gC:b<g.next) (g4:c<g.next) (tG:d<g.next) (ak:x.length<=1000000) (bd:y.length<=1000000) {i:Nat} (ag:i<=1000000) {r:Int} (t:T [bk (x.getD i 0),bk (y.getD i 0)]=some (bk r)):
 ∃e9,fi G (bb Tryz.prog) fe Y (.fn 207) [bt i,.bool false,.ptr b 0 0,.ptr c 0 0,.ptr d 0 0] g=some (gB (r,false),e9)/\Kept g e9:=by
 have t1:=IN (x,i) ⟨by simp only;omega,ak⟩ (args:=[bF x false,bt i]) (by simp)
 have t2:=IN (y,i) ⟨by simp only;omega,bd⟩ (args:=[bF y false,bt i]) (by simp)
 simp only at t1 t2
 generalize x.getD i 0=W2 at*
 generalize y.getD i 0=W3 at*
 obtain⟨v,e9,e,rfl,K⟩:=kM (Φ:=bb Tryz.prog) (G:=G) (tab:=fe) (Y:=Y) (h:=g) (args:=[bt i,.bool false,.ptr b 0 0,.ptr c 0 0,.ptr d 0 0]) (R:=fun v av=>v=gB (r,false)/\Kept g av) Nc (by
  unfold i207
  refine ao [0,2,3,4,7] fun F=>?_
  simp only[an]
  intro f0 f2 f3 f4 f7
  simp[bj] at f0 f2 f3 f4 f7
  repeat' (first
   | refine aC ?_
   | ((fail_if_success (refine aT ?_));(fail_if_success (refine aU ?_));refine aO ?_)
   | ((first|(refine aD cr ?_;simp(disch:=omega) [aj,I,bA,gC,g4,tG,t1,t2,cJ,t,aG,f0,f2,f3,f4,f7];(try(refine⟨by first|decide|rfl,?_⟩)))|(refine aM ?_;simp(disch:=omega) [aj,I,bA,gC,g4,tG,t1,t2,cJ,t,aG,f0,f2,f3,f4,f7]));(try(refine ao [0,2,3,4,7] ?_;intro F;simp only[an];intro U af al ad au;simp(disch:=omega) [aj,I,bA,gC,g4,tG,t1,t2,cJ,t,aG,f0,f2,f3,f4,f7] at U af al ad au;clear f0 f2 f3 f4 f7;have f0:=U;have f2:=af;have f3:=al;have f4:=ad;have f7:=au;clear U af al ad au)))
   | (refine aL _ (by simp(disch:=omega) [aj,I,bA,gC,g4,tG,t1,t2,cJ,t,aG,f0,f2,f3,f4,f7];rfl) (fun I=>?_) (fun I=>?_)<;>first|(exfalso;simp(disch:=omega) [aj,I,bA,gC,g4,tG,t1,t2,cJ,t,aG] at I;done)|(exfalso;simp at I;omega)|(simp at I))
   | ((first|refine aH ?_|refine aQ ?_);simp(disch:=omega) [aj,I,bA,gC,g4,tG,t1,t2,cJ,t,aG,f0,f2,f3,f4,f7]))
  try refine aH ?_
  simp[kL,f7]
  exact⟨by(try simp only);omega,fun j aZ=>by(try simp only[aF]);repeat (first|rfl|rw[if_neg (by omega)]),rfl,rfl⟩)
 exact⟨e9,e,K⟩
end
section
attribute [local irreducible] ck
attribute [local simp] ed ef dm
noncomputable def qk:FuncId->Option (List J->Option J):=dn [(205,tm)]
theorem Tk:∀f T,qk f=some T->br Tryz.prog G f T:=dr (by simp only[List.forall_mem_cons];exact⟨Ic,fun _ h=>absurd h (by simp)⟩)
theorem Tl:qk 205=some tm:=rfl
theorem Tm:qk 138=none:=rfl
theorem Tn:qk 204=none:=rfl
theorem To:qk 53=none:=rfl
attribute [local simp] Tl Tm Tn To
structure rO (a b:Nat) (h:aA):Prop where
 cz:∃xs e,h.cells 1=some [.sl xs e]
 gL:h.cells 5=some [aw a]
 hi:h.cells 6=some [aw b]
 s1:h.shut 1=false
 gy:h.shut 5=false
 gz:h.shut 6=false
 gY:h.bm 10=some .ready
 gO:10<h.next
theorem rO.bump {a b:Nat} {h:aA} (a3:rO a b h) (n:Nat) (ar:h.next<=n):rO a b ⟨h.cells,h.shut,n,h.bm⟩:=
 ⟨a3.cz,a3.gL,a3.hi,a3.s1,a3.gy,a3.gz,a3.gY,Nat.lt_of_lt_of_le a3.gO ar⟩
theorem Tp (Y:List c4) {F:Nat->J} (f5:F 5= .ptr 1 0 0) {h:aA} {a b:Nat} (a3:rO a b h):
 ∃u av,fi G (bb Tryz.prog) qk (⟨10,F,[10,11],(.region false [⟨(some 6),(.mv (.t 10)),none⟩] []),(.block 1 (.region false [⟨(some 12),(.mv (.t 6)),none⟩,⟨none,(.store 1 (.t 5) (.t 12)),none⟩] []))⟩::Y) (.kI 10) [aw a,aw b] h=some (u,av)/\u= .bool true/\rO a b av/\av.cells 1=some [aw a]/\h.next<=av.next:=by
 obtain⟨xs,e,cz⟩:=a3.cz
 have gL:=a3.gL
 have hi:=a3.hi
 have s1:=a3.s1
 have gO:=a3.gO
 refine zr (L:=⟨10,F,[10,11],(.region false [⟨(some 6),(.mv (.t 10)),none⟩] []),(.block 1 (.region false [⟨(some 12),(.mv (.t 6)),none⟩,⟨none,(.store 1 (.t 5) (.t 12)),none⟩] []))⟩) (Y':=Y) (by simp[ns]) rfl ?_
 simp only[md]
 refine aD cr ?_
 simp[a3.gY,Nat.add_assoc]
 refine aO (aD cr ?_)
 simp(disch:=omega) [aJ,List.getElem?_cons_zero,List.getElem?_cons_succ,eH,dp,fP,Nat.mod_eq_of_lt,jY,jZ,j0,j1,fU,j2,j3,j4,f5,cz,s1,Nat.add_assoc,rY,ke,vE,nZ,pw]
 exact⟨⟨_,_,rfl⟩,by simp[aF,gL],by simp[aF,hi],s1,a3.gy,a3.gz,by simp[aF],by show 10<h.next+3;omega⟩
theorem tH (Y:List c4) (h:aA) (a b:Nat):
 fi G (bb Tryz.prog) qk Y (.fn 138) [aw a,aw b] h=some (.fn 204 [] [.ptr h.next 0 0,.ptr (h.next+1) 0 0],⟨aF (aF h.cells h.next (some [aw a])) (h.next+1) (some [aw b]),h.shut,h.next+5,h.bm⟩):=by
 obtain⟨v,av,e,rfl,rfl⟩:=kM (Φ:=bb Tryz.prog) (G:=G) (tab:=qk) (Y:=Y) (h:=h) (args:=[aw a,aw b]) (R:=fun v av=>v= .fn 204 [] [.ptr h.next 0 0,.ptr (h.next+1) 0 0]/\av=⟨aF (aF h.cells h.next (some [aw a])) (h.next+1) (some [aw b]),h.shut,h.next+5,h.bm⟩) EM (by
  unfold i138
  refine ao [0,1,2,3,4] fun F=>?_
  simp only[an]
  intro f0 f1 f2 f3 f4
  simp[bj] at f0 f1 f2 f3 f4
  repeat' (first
   | refine aC ?_
   | ((fail_if_success (refine aT ?_));(fail_if_success (refine aU ?_));refine aO ?_)
   | ((first|(refine aD cr ?_;simp(disch:=omega) [Nat.add_assoc,f0,f1,f2,f3,f4];(try(refine⟨by first|decide|rfl,?_⟩)))|(refine aM ?_;simp(disch:=omega) [Nat.add_assoc,f0,f1,f2,f3,f4]));(try(refine ao [0,1,2,3,4] ?_;intro F;simp only[an];intro U aa af al ad;simp(disch:=omega) [Nat.add_assoc,f0,f1,f2,f3,f4] at U aa af al ad;clear f0 f1 f2 f3 f4;have f0:=U;have f1:=aa;have f2:=af;have f3:=al;have f4:=ad;clear U aa af al ad)))
   | (refine aL _ (by simp(disch:=omega) [Nat.add_assoc,f0,f1,f2,f3,f4];rfl) (fun I=>?_) (fun I=>?_)<;>first|(exfalso;simp(disch:=omega) [Nat.add_assoc] at I;done)|(exfalso;simp at I;omega)|(simp at I))
   | ((first|refine aH ?_|refine aQ ?_);simp(disch:=omega) [Nat.add_assoc,f0,f1,f2,f3,f4]))
  refine aH ?_
  simp[kL,f4])
 exact e
noncomputable def tI:List J->Option J:=cd (fun z:Nat × Nat=>(ah z.1).length<=1000000/\(ah z.2).length<=1000000) (fun z=>[aw z.1,aw z.2]) (fun z=>aw (Nat.gcd z.1 z.2))
theorem IQ (z:Nat × Nat) (h:(ah z.1).length<=1000000/\(ah z.2).length<=1000000) {args:List J} (he:args.map J.loose= [aw z.1,aw z.2]):tI args=some (aw (Nat.gcd z.1 z.2)):=cU (fun z w h=>by first|(simp only[List.cons.injEq,J.int.injEq,J.bool.injEq,J.sl.injEq,cl,cm,ct,cu,cp,b2,b6,cn,bY,true_and,and_true] at h;simp[h];done)|(simp only[J.agg.injEq,List.cons.injEq,J.int.injEq,J.bool.injEq,J.sl.injEq,cl,cm,ct,cu,cp,b2,b6,cn,bY,true_and,and_true] at h;simp[h])) z h he
theorem IS:br Tryz.prog G 53 tI:=by
 refine cG mixed Tk Eu fun z aP=>?_
 obtain⟨a,b⟩:=z
 obtain⟨cE,bU⟩:=aP
 simp only at cE bU|-
 unfold i53
 refine ao [0,1,4,5,6,9,10] fun F=>?_
 simp only[an]
 intro f0 f1 f4 f5 f6 f9 f10
 simp[bj] at f0 f1 f4 f5 f6 f9 f10
 repeat' (first
  | refine aC ?_
  | ((fail_if_success (refine aT ?_));(fail_if_success (refine aU ?_));refine aO ?_)
  | ((first|(refine aD cr ?_;simp(disch:=omega) [tH,f0,f1,f4,f5,f6,f9,f10];(try(refine⟨by first|decide|rfl,?_⟩)))|(refine aM ?_;simp(disch:=omega) [tH,f0,f1,f4,f5,f6,f9,f10]));(try(refine ao [0,1,4,5,6,9,10] ?_;intro F;simp only[an];intro U aa ad ae ai a2 a5;simp(disch:=omega) [tH,f0,f1,f4,f5,f6,f9,f10] at U aa ad ae ai a2 a5;clear f0 f1 f4 f5 f6 f9 f10;have f0:=U;have f1:=aa;have f4:=ad;have f5:=ae;have f6:=ai;have f9:=a2;have f10:=a5;clear U aa ad ae ai a2 a5)))
  | (refine aL _ (by simp(disch:=omega) [tH,f0,f1,f4,f5,f6,f9,f10];rfl) (fun I=>?_) (fun I=>?_)<;>first|(exfalso;simp(disch:=omega) [tH] at I;done)|(exfalso;simp at I;omega)|(simp at I))
  | ((first|refine aH ?_|refine aQ ?_);simp(disch:=omega) [tH,f0,f1,f4,f5,f6,f9,f10]))
 refine aO (zq f9 E7 ?_)
 have ez:=f5
 clear f0 f1 f5 f9
 unfold i204
 simp
 refine ao [0,1,2] fun F=>?_
 simp only[an]
 intro f0 f1 f2
 simp[bj] at f0 f1 f2
 refine oh (fun k s=>∃x y,y=k/\(ah x).length<=1000000/\(ah y).length<=1000000/\Nat.gcd x y=Nat.gcd a b/\rO x y s.h) (fun s=>rO (Nat.gcd a b) 0 s.h/\s.h.cells 1=some [aw (Nat.gcd a b)]) (fun _=>False) b ?_ ?_ ?_ (fun _ _ h=>h.elim)
 · refine⟨a,b,rfl,cE,bU,rfl,?_⟩
   exact⟨⟨[],true,by simp[aF]⟩,by simp[aF],by simp[aF],by simp,by simp,by simp,by simp[aF],by simp⟩
 · rintro k s aE ⟨x,y,rfl,W4,rB,bp,a3⟩
   replace f0:=(aE 0 rfl).trans f0;replace f1:=(aE 1 rfl).trans f1;replace f2:=(aE 2 rfl).trans f2
   have gL:=a3.gL
   have hi:=a3.hi
   have gy:=a3.gy
   have gz:=a3.gz
   have gO:=a3.gO
   obtain⟨u,av,fH,rfl,lg,cz,ar⟩:=Tp [] ez (a3.bump (s.h.next+9) (by omega))
   simp only at ar
   have tJ:=lg.gL
   have nr:=lg.hi
   have tK:=lg.gy
   have tL:=lg.gz
   have W5:=lg.gO
   refine ao [0,1,2,5,15] ?_
   intro F
   simp only[an]
   intro U aa af ae bD
   try simp[aJ,f0,f1,f2] at U aa af ae bD
   clear f0 f1 f2
   have f0:=U
   have f1:=aa
   have f2:=af
   have f5:=ae
   have f15:=bD
   clear U aa af ae bD
   by_cases bd:y=0
   · subst bd
     have cK:ah 0= []:=fu
     repeat' (first
      | refine aC ?_
      | ((fail_if_success (refine aT ?_));(fail_if_success (refine aU ?_));refine aO ?_)
      | ((first|(refine aD cr ?_;simp(disch:=omega) [gL,hi,fH,nr,cK,f0,f1,f2,f5,f15];(try(refine⟨by first|decide|rfl,?_⟩)))|(refine aM ?_;simp(disch:=omega) [gL,hi,fH,nr,cK,f0,f1,f2,f5,f15]));(try(refine ao [0,1,2,5,15] ?_;intro F;simp only[an];intro U aa af ae bD;simp(disch:=omega) [gL,hi,fH,nr,cK,f0,f1,f2,f5,f15] at U aa af ae bD;clear f0 f1 f2 f5 f15;have f0:=U;have f1:=aa;have f2:=af;have f5:=ae;have f15:=bD;clear U aa af ae bD)))
      | (refine aL _ (by simp(disch:=omega) [gL,hi,fH,nr,cK,f0,f1,f2,f5,f15];rfl) (fun I=>?_) (fun I=>?_)<;>first|(exfalso;simp(disch:=omega) [gL,hi,fH,nr,cK] at I;done)|(exfalso;simp at I;omega)|(simp at I))
      | ((first|refine aH ?_|refine aQ ?_);simp(disch:=omega) [gL,hi,fH,nr,cK,f0,f1,f2,f5,f15]))
     rw[Nat.gcd_zero_right] at bp
     rw[bp] at lg cz
     exact⟨lg.bump _ (by omega),cz⟩
   · have hyp:0<(ah y).length:=mo.2 bd
     have tM:¬ah y= []:=fun h=>bd (jO.1 h)
     have bH:=HS (x,y) ⟨by simp only;omega,by simp only;omega⟩ (args:=[aw x,aw y]) (by simp)
     simp only[if_neg bd] at bH
     repeat' (first
      | refine aC ?_
      | ((fail_if_success (refine aT ?_));(fail_if_success (refine aU ?_));refine aO ?_)
      | ((first|(refine aD cr ?_;simp(disch:=omega) [gL,hi,fH,tJ,nr,tK,tL,hyp,tM,bH,f0,f1,f2,f5,f15];(try(refine⟨by first|decide|rfl,?_⟩)))|(refine aM ?_;simp(disch:=omega) [gL,hi,fH,tJ,nr,tK,tL,hyp,tM,bH,f0,f1,f2,f5,f15]));(try(refine ao [0,1,2,5,15] ?_;intro F;simp only[an];intro U aa af ae bD;simp(disch:=omega) [gL,hi,fH,tJ,nr,tK,tL,hyp,tM,bH,f0,f1,f2,f5,f15] at U aa af ae bD;clear f0 f1 f2 f5 f15;have f0:=U;have f1:=aa;have f2:=af;have f5:=ae;have f15:=bD;clear U aa af ae bD)))
      | (refine aL _ (by simp(disch:=omega) [gL,hi,fH,tJ,nr,tK,tL,hyp,tM,bH,f0,f1,f2,f5,f15];rfl) (fun I=>?_) (fun I=>?_)<;>first|(exfalso;simp(disch:=omega) [gL,hi,fH,tJ,nr,tK,tL,hyp,tM,bH] at I;done)|(exfalso;simp at I;omega)|(simp at I))
      | ((first|refine aH ?_|refine aQ ?_);simp(disch:=omega) [gL,hi,fH,tJ,nr,tK,tL,hyp,tM,bH,f0,f1,f2,f5,f15]))
     refine⟨x%y,Nat.mod_lt _ (by omega),y,rB,?_,?_,?_⟩
     · exact Nat.le_trans (fW (Nat.le_of_lt (Nat.mod_lt _ (by omega)))) rB
     · rw[<-bp,Nat.gcd_comm y (x%y),<-Nat.gcd_rec y x,Nat.gcd_comm]
     · exact⟨⟨_,_,cz⟩,by simp[aF],by simp[aF],lg.s1,lg.gy,lg.gz,lg.gY,by simp only;omega⟩
 · rintro s aE ⟨a3,cz⟩
   have gO:=a3.gO
   refine⟨trivial,⟨_,rfl⟩,?_⟩
   simp only[a3.gY]
   simp
   have f5:=ez
   refine ao [4,5,13] ?_
   intro F
   simp only[an]
   intro ad ae aY
   try simp[aJ,f5] at ad ae aY
   clear f5
   have f4:=ad
   have f5:=ae
   have f13:=aY
   clear ad ae aY
   repeat' (first
    | refine aC ?_
    | ((fail_if_success (refine aT ?_));(fail_if_success (refine aU ?_));refine aO ?_)
    | ((first|(refine aD cr ?_;simp(disch:=omega) [cz,f4,f5,f13];(try(refine⟨by first|decide|rfl,?_⟩)))|(refine aM ?_;simp(disch:=omega) [cz,f4,f5,f13]));(try(refine ao [4,5,13] ?_;intro F;simp only[an];intro ad ae aY;simp(disch:=omega) [cz,f4,f5,f13] at ad ae aY;clear f4 f5 f13;have f4:=ad;have f5:=ae;have f13:=aY;clear ad ae aY)))
    | (refine aL _ (by simp(disch:=omega) [cz,f4,f5,f13];rfl) (fun I=>?_) (fun I=>?_)<;>first|(exfalso;simp(disch:=omega) [cz] at I;done)|(exfalso;simp at I;omega)|(simp at I))
    | ((first|refine aH ?_|refine aQ ?_);simp(disch:=omega) [cz,f4,f5,f13]))
end
end
end Go.Proofs.YtemiagcencajeaaGreatDoor
