/- What the claim needs of the walks, put together by a program (shake.py). -/
import Derived.Test.YtcikknajimdjoaaGreatDoorFpJ
set_option maxRecDepth 100000
set_option linter.unusedSimpArgs false
set_option linter.unusedVariables false
set_option linter.unusedSectionVars false
namespace Go.Proofs.YtcikknajimdjoaaGreatDoor
section
set_option maxHeartbeats 8000000
open Go Go.Eng Go.RowKit
theorem W8 {n:Nat} (aS:n≠0) (h:n<4294967296):ai n= [n]:=by
 rw[ai,dif_neg aS,Nat.mod_eq_of_lt h,Nat.div_eq_of_lt h,eX]
theorem KZ (a:Nat):∀k:Nat,(ai (a^k)).length<=k*(ai a).length+1
 | 0=>by rw[Nat.pow_zero,lX];simp
 | k+1=>by
   have ae:=hC (a^k) a
   have h2:=KZ a k
   rw[Nat.pow_succ,Nat.succ_mul];omega
end
section
set_option maxHeartbeats 8000000
open Go Go.Eng Go.RowKit
def l8 (n:Int) (k:Nat):Nat:=(BitVec.ofInt 64 n&&&BitVec.ofInt 64 (Z k)).toNat
theorem W9 (n:Int) {k:Nat} (aI:k<18446744073709551616):l8 n k<=k:=by
 unfold l8
 rw[BitVec.toNat_and]
 have:(BitVec.ofInt 64 (Z k)).toNat=k:=by
  simp only[Z,BitVec.ofInt_natCast,BitVec.toNat_ofNat];exact Nat.mod_eq_of_lt (by omega)
 rw[this];exact Nat.and_le_right
theorem xv {a:Int} {k:Nat} (aI:k<9223372036854775808):gP .and .i64 a (Z k)=some (.int .i64 (Z (l8 a k))):=by
 have h:=W9 a (k:=k) (by omega)
 show some (J.int .i64 (IntKind.i64.wrap (Z (l8 a k))))=_
 rw[gl (by omega)]
theorem K0 {f:cE} (aT:fS f) {m:Nat} {e:Int} (h:n8 f m e) (he:e<=f.an):(ai m).length<=3/\0<(ai m).length/\(ai m).length<=f.p/\nv (ai m)=true/\(e<f.bd)=False/\(f.an<e)=False/\cT m (f.β^f.p)= -1/\(e=f.bd\/(Z 0<=cT m (f.β^(f.p - 1)))=True):=by
 have ae:=Dk aT h.lt
 have h2:=mn (b:=f.β) (n:=f.p) (by have:=aT.b;omega)
 have aO:=f_ (Nat.le_of_lt h.lt)
 have a2:=aT.dO
 refine⟨ae,lk.2 (Nat.ne_of_gt h.pos),by omega,WV (by omega),eq_false (by have:=h.ge;omega),eq_false (by omega),if_pos h.lt,?_⟩
 refine h.low.imp id fun cf=>eq_true ?_
 unfold cT
 rw[if_neg (by omega)]
 split<;>decide
theorem K1:((-1:Int)<Z 0)=True:=eq_true (by decide)
theorem W_:(Z 0<=(-1:Int))=False:=eq_false (by decide)
end
section
set_option maxHeartbeats 8000000
open Go Go.Eng Go.RowKit
theorem W':(ai 1).length<=1:=by rw[lX];decide
end
section
set_option maxHeartbeats 8000000
open Go Go.Eng Go.RowKit
theorem Xa {f:cE} (aT:fS f) {w:Rat} {n:Nat} (h:eV w<=n):dZ w<cj f.β (32*n:Nat):=by
 have au:=aT.ok.b
 have ae:=size_eq w
 have bw:(1:Rat)<=(w.den:Rat):=by
  have:=Rat.natCast_le_natCast.2 w.den_pos;exact this
 have h2:w.num.natAbs<f.β^(32*n):=by
  have aO:(ai w.num.natAbs).length<=n:=by simp only[eV,bS] at h;omega
  have a2:=c8.1 aO
  rw[ll] at a2
  exact Nat.lt_of_lt_of_le a2 (Nat.pow_le_pow_left au _)
 have cf:=Rat.natCast_lt_natCast.2 h2
 have dS:dZ w<=dZ w*(w.den:Rat):=by
  have:=Rat.mul_le_mul_of_nonneg_left bw (xr w)
  rwa [Rat.mul_one] at this
 rw[kR]
 rw[ae] at dS
 exact rS dS cf
theorem K2 {f:cE} (aT:fS f) {w:Rat} (h:eV w<=12):f.bd<=lW f (dZ w)/\lW f (dZ w)<=384:=by
 have dL:=rU aT.ok (dZ w)
 have ae:=dL.Wz aT.ok.b (k:=384) (Xa aT (n:=12) h)
 have:=aT.dD
 exact ⟨dL.ge,by omega⟩
def Dn (dir:Nat) (neg:Bool) (m:Nat) (r:Rat):Nat:=if (decide (0<r)&&ho dir neg (decide (m%2=1)) (gM r))=true then m+1 else m
theorem Xb {r:Rat} (h:0<r):gV r.num=1:=by
 have ae:0<r.num:=by
  have h2:=Rat.num_nonneg.2 (Rat.le_of_lt h)
  have aO:r.num≠0:=fun a2=>Rat.ne_of_gt h (Rat.num_eq_zero.1 a2)
  omega
 unfold gV
 rw[if_neg (by omega),if_neg (by omega)]
theorem Xc {r:Rat} (h:r<0):gV r.num= -1:=by
 have ae:r.num<0:=Int.not_le.1 fun h2=>Rat.not_le.2 h (Rat.num_nonneg.1 h2)
 unfold gV
 rw[if_neg (by omega),if_pos ae]
theorem Xd {w:Rat} (h:w≠0):∃neg rH,decide (w<0)=neg/\gV w.num=rH/\(rH=Z 0)=False/\(rH == Z 0)=false/\(rH<Z 0)=(neg=true)/\(neg=true-> -w=dZ w)/\(neg=false->w=dZ w):=by
 by_cases ae:w<0
 · exact ⟨true,-1,decide_eq_true ae,Xc ae,eq_false (by decide),rfl,by simp[Z],fun _=>(if_pos ae).symm,(fun h=>by cases h)⟩
 · exact ⟨false,1,decide_eq_false ae,Xb (by grind),eq_false (by decide),rfl,by simp[Z],(fun h=>by cases h),fun _=>(if_neg ae).symm⟩
end
section
set_option maxHeartbeats 8000000
open Go Go.Eng Go.RowKit
attribute [local simp] bH.m bH.o bH.n bH.g hy fh dG dr dJ evalOp.eq_1 evalOp.eq_2 evalOp.eq_3 evalOp.eq_4 evalOp.eq_5 evalOp.eq_6 evalOp.eq_7 evalOp.eq_8 evalOp.eq_9 evalOp.eq_10 evalOp.eq_11 evalOp.eq_12 evalOp.eq_13 evalOp.eq_14 evalOp.eq_15 evalOp.eq_16 evalOp.eq_17 evalOp.eq_18 evalOp.eq_19 evalOp.eq_20 evalOp.eq_21 evalOp.eq_22 evalOp.eq_23 evalOp.eq_24 evalOp.eq_25 evalOp.eq_27 evalOp.eq_28 evalOp.eq_29 kl bn.cu dq aG aF.new a8 J.cells J.dp J.e7 J.ft il iq im ir iv iu jK jL jM gY gZ cut partOf bound elems jO jP jQ jR jS jT jU jV jW jX jY jZ h1 j0 j1 j2 j3 j4 j5 j6 j7 j8 j9 j_ j' ka kb kc kd ke kf kg kh ki kj kk ff e8 e1 gi iw hA aF.close aF.set h3 km kn ko jN hB gD gq gJ gr hX gu gK hY hZ h0 gf gg gh gd ix bI hU iy hV iz iA fY iB fw iC iD iE gT jJ iF iG iH iI iJ iK iL iM iN iO iP iQ iR iS iT iU iV iW iX hf iY iZ i_ i' ja jb jc jd je jf jg jh ji jj jk
attribute [local simp high] jG jH jI jl jm jn jo jq jr js jt ju jv jw jx jy jz jA jB jC jD jE jF
attribute [local simp] aS List.getElem?_cons_zero List.getElem?_cons_succ fa eh gl Nat.mod_eq_of_lt kH kI kJ kK gL kL kM kN
section
attribute [local irreducible] cQ
attribute [local simp] ek eL du
noncomputable def K3:FuncId->Option (List J->Option J):=da [(89,uG)]
theorem Xe:∀f T,K3 f=some T->bl Tryz.prog G f T:=dc (by simp only[List.forall_mem_cons];exact ⟨IY,fun _ h=>absurd h (by simp)⟩)
theorem Xf:K3 89=some uG:=rfl
attribute [local simp] Xf
noncomputable def zR:List J->Option J:=cl (fun z:Nat × Nat=>(ai z.1).length<=1000/\z.2<=10000) (fun z=>[aw z.1,bp z.2]) (fun z=>aw (z.1^z.2))
theorem Xg (z:Nat × Nat) (h:(ai z.1).length<=1000/\z.2<=10000) {args:List J} (he:args.map J.loose= [aw z.1,bp z.2]):zR args=some (aw (z.1^z.2)):=cI (fun z w h=>by first|(simp only[fR,fQ,List.cons.injEq,J.int.injEq,J.bool.injEq,J.sl.injEq,bT,bU,bY,bZ,bX,bG,bL,bV,bI,true_and,and_true] at h;simp[h];done)|(simp only[J.agg.injEq,fR,fQ,List.cons.injEq,J.int.injEq,J.bool.injEq,J.sl.injEq,bT,bU,bY,bZ,bX,bG,bL,bV,bI,true_and,and_true] at h;simp[h])) z h he
theorem Xh:bl Tryz.prog G 90 zR:=by
 refine cJ mixed Xe Pq fun z aV=>?_
 obtain⟨a,n⟩:=z
 obtain⟨cZ,aC⟩:=aV
 simp only at cZ aC|-
 unfold i90
 refine al [0,1,4,5,6,10] fun F=>?_
 simp only[ak]
 intro f0 f1 f4 f5 f6 f10
 simp[a8] at f0 f1 f4 f5 f6 f10
 repeat' (first
  | refine ax ?_
  | ((fail_if_success (refine aQ ?_));(fail_if_success (refine aR ?_));refine aL ?_)
  | ((first|(refine az aM ?_;simp(disch:=omega) [f0,f1,f4,f5,f6,f10];(try(refine⟨by first|decide|rfl,?_⟩)))|(refine aK ?_;simp(disch:=omega) [f0,f1,f4,f5,f6,f10]));(try(refine al [0,1,4,5,6,10] ?_;intro F;simp only[ak];intro U ab ad ah ag aB;simp(disch:=omega) [f0,f1,f4,f5,f6,f10] at U ab ad ah ag aB;clear f0 f1 f4 f5 f6 f10;have f0:=U;have f1:=ab;have f4:=ad;have f5:=ah;have f6:=ag;have f10:=aB;clear U ab ad ah ag aB)))
  | (refine aJ _ (by simp(disch:=omega) [f0,f1,f4,f5,f6,f10];rfl) (fun I=>?_) (fun I=>?_)<;>first|(exfalso;simp(disch:=omega) at I;done)|(exfalso;simp at I;omega)|(simp at I))
  | ((first|refine aH ?_|refine aN ?_);simp(disch:=omega) [f0,f1,f4,f5,f6,f10]))
 refine o8 n (fun i s=>(∃e,s.F 5=cH (ai (a^i)) e)/\s.F 6=bp i) (fun s=>∃e,s.F 5=cH (ai (a^n)) e) (fun _=>False) ?_ ?_ ?_ (fun _ _ h=>h.elim)
 · exact ⟨⟨true,by show F 5=_;rw[f5,Nat.pow_zero,lX];rfl⟩,f6⟩
 · rintro i s an aI ⟨⟨e,ev⟩,ht⟩
   replace f0:=(aI 0 rfl).trans f0;replace f1:=(aI 1 rfl).trans f1
   clear f5 f6
   have f5:=ev
   have f6:=ht
   refine al [0,1,5,6,10] ?_
   intro F
   simp only[ak]
   intro U ab ah ag aB
   try simp[aS,f0,f1,f5,f6] at U ab ah ag aB
   clear f0 f1 f5 f6
   have f0:=U
   have f1:=ab
   have f5:=ah
   have f6:=ag
   have f10:=aB
   clear U ab ah ag aB
   have a6:=KZ a i
   have hm:i*(ai a).length<=10000*1000:=Nat.mul_le_mul (by omega) cZ
   have t:=IX (a:=a^i) (b:=a) (e:=e) (e':=false) (by omega) (by omega)
   rw[<-Nat.pow_succ] at t
   by_cases a2:i<n
   · generalize hw:a^(i+1)=w at*
     repeat' (first
      | refine ax ?_
      | ((fail_if_success (refine aQ ?_));(fail_if_success (refine aR ?_));refine aL ?_)
      | ((first|(refine az aM ?_;simp(disch:=omega) [a2,t,f0,f1,f5,f6,f10];(try(refine⟨by first|decide|rfl,?_⟩)))|(refine aK ?_;simp(disch:=omega) [a2,t,f0,f1,f5,f6,f10]));(try(refine al [0,1,5,6,10] ?_;intro F;simp only[ak];intro U ab ah ag aB;simp(disch:=omega) [a2,t,f0,f1,f5,f6,f10] at U ab ah ag aB;clear f0 f1 f5 f6 f10;have f0:=U;have f1:=ab;have f5:=ah;have f6:=ag;have f10:=aB;clear U ab ah ag aB)))
      | (refine aJ _ (by simp(disch:=omega) [a2,t,f0,f1,f5,f6,f10];rfl) (fun I=>?_) (fun I=>?_)<;>first|(exfalso;simp(disch:=omega) [a2,t] at I;done)|(exfalso;simp at I;omega)|(simp at I))
      | ((first|refine aH ?_|refine aN ?_);simp(disch:=omega) [a2,t,f0,f1,f5,f6,f10]))
     rw[hw]
   · obtain rfl:i=n:=by omega
     repeat' (first
      | refine ax ?_
      | ((fail_if_success (refine aQ ?_));(fail_if_success (refine aR ?_));refine aL ?_)
      | ((first|(refine az aM ?_;simp(disch:=omega) [f0,f1,f5,f6,f10];(try(refine⟨by first|decide|rfl,?_⟩)))|(refine aK ?_;simp(disch:=omega) [f0,f1,f5,f6,f10]));(try(refine al [0,1,5,6,10] ?_;intro F;simp only[ak];intro U ab ah ag aB;simp(disch:=omega) [f0,f1,f5,f6,f10] at U ab ah ag aB;clear f0 f1 f5 f6 f10;have f0:=U;have f1:=ab;have f5:=ah;have f6:=ag;have f10:=aB;clear U ab ah ag aB)))
      | (refine aJ _ (by simp(disch:=omega) [f0,f1,f5,f6,f10];rfl) (fun I=>?_) (fun I=>?_)<;>first|(exfalso;simp(disch:=omega) at I;done)|(exfalso;simp at I;omega)|(simp at I))
      | ((first|refine aH ?_|refine aN ?_);simp(disch:=omega) [f0,f1,f5,f6,f10]))
 · rintro s aI ⟨e,ev⟩
   clear f5 f6
   have f5:=ev
   refine al [4,5] ?_
   intro F
   simp only[ak]
   intro ad ah
   try simp[aS,f5] at ad ah
   clear f5
   have f4:=ad
   have f5:=ah
   clear ad ah
   generalize a^n=w at*
   repeat' (first
    | refine ax ?_
    | ((fail_if_success (refine aQ ?_));(fail_if_success (refine aR ?_));refine aL ?_)
    | ((first|(refine az aM ?_;simp(disch:=omega) [f4,f5];(try(refine⟨by first|decide|rfl,?_⟩)))|(refine aK ?_;simp(disch:=omega) [f4,f5]));(try(refine al [4,5] ?_;intro F;simp only[ak];intro ad ah;simp(disch:=omega) [f4,f5] at ad ah;clear f4 f5;have f4:=ad;have f5:=ah;clear ad ah)))
    | (refine aJ _ (by simp(disch:=omega) [f4,f5];rfl) (fun I=>?_) (fun I=>?_)<;>first|(exfalso;simp(disch:=omega) at I;done)|(exfalso;simp at I;omega)|(simp at I))
    | ((first|refine aH ?_|refine aN ?_);simp(disch:=omega) [f4,f5]))
noncomputable def K4:FuncId->Option (List J->Option J):=da [(90,zR)]
theorem Xi:∀f T,K4 f=some T->bl Tryz.prog G f T:=dc (by simp only[List.forall_mem_cons];exact ⟨Xh,fun _ h=>absurd h (by simp)⟩)
theorem Xj:K4 90=some zR:=rfl
attribute [local simp] Xj
noncomputable def zS:List J->Option J:=cl (fun z:cE × Nat=>(z.1.β=2\/z.1.β=10)/\z.2<=10000) (fun z=>[d_ z.1,bp z.2]) (fun z=>aw (z.1.β^z.2))
theorem K5 (z:cE × Nat) (h:(z.1.β=2\/z.1.β=10)/\z.2<=10000) {args:List J} (he:args.map J.loose= [d_ z.1,bp z.2]):zS args=some (aw (z.1.β^z.2)):=cI (fun z w h=>by first|(simp only[fR,fQ,List.cons.injEq,J.int.injEq,J.bool.injEq,J.sl.injEq,bT,bU,bY,bZ,bX,bG,bL,bV,bI,true_and,and_true] at h;simp[h];done)|(simp only[J.agg.injEq,fR,fQ,List.cons.injEq,J.int.injEq,J.bool.injEq,J.sl.injEq,bT,bU,bY,bZ,bX,bG,bL,bV,bI,true_and,and_true] at h;simp[h])) z h he
theorem Xk:bl Tryz.prog G 36 zS:=by
 refine cJ mixed Xi O' fun z aV=>?_
 obtain⟨⟨b,p,bd,an⟩,n⟩:=z
 obtain⟨au,aC⟩:=aV
 simp only at au aC|-
 have a6:ai b= [b]:=W8 (by omega) (by omega)
 have t:=Xg (b,n) ⟨by simp only[a6];simp,aC⟩ (args:=[.sl [.int .u32 (Z b)] true,bp n]) (by simp[a6])
 simp only at t
 have hm:b%4294967296=b:=Nat.mod_eq_of_lt (by omega)
 generalize b^n=w at*
 unfold i36
 refine al [0,1,2,4] fun F=>?_
 simp only[ak]
 intro f0 f1 f2 f4
 simp[a8] at f0 f1 f2 f4
 repeat' (first
  | refine ax ?_
  | ((fail_if_success (refine aQ ?_));(fail_if_success (refine aR ?_));refine aL ?_)
  | ((first|(refine az aM ?_;simp(disch:=omega) [t,hm,f0,f1,f2,f4];(try(refine⟨by first|decide|rfl,?_⟩)))|(refine aK ?_;simp(disch:=omega) [t,hm,f0,f1,f2,f4]));(try(refine al [0,1,2,4] ?_;intro F;simp only[ak];intro U ab aa ad;simp(disch:=omega) [t,hm,f0,f1,f2,f4] at U ab aa ad;clear f0 f1 f2 f4;have f0:=U;have f1:=ab;have f2:=aa;have f4:=ad;clear U ab aa ad)))
  | (refine aJ _ (by simp(disch:=omega) [t,hm,f0,f1,f2,f4];rfl) (fun I=>?_) (fun I=>?_)<;>first|(exfalso;simp(disch:=omega) [t,hm] at I;done)|(exfalso;simp at I;omega)|(simp at I))
  | ((first|refine aH ?_|refine aN ?_);simp(disch:=omega) [t,hm,f0,f1,f2,f4]))
noncomputable def Xl:FuncId->Option (List J->Option J):=da []
theorem Xm:∀f T,Xl f=some T->bl Tryz.prog G f T:=dc (by simp)
theorem Xn {b p:Nat} {bd an:Int} (h:fS ⟨b,p,bd,an⟩):(b=2\/b=10)/\(Z 1<=Z p)=True/\(Z p<=Z 4096)=True/\(bd<=an)=True/\((-100000:Int)<=bd)=True/\(bd<=Z 100000)=True/\((-100000:Int)<=an)=True/\(an<=Z 100000)=True:=by
 obtain⟨ae,h2,aO,a2,cf,dS,lf⟩:=h
 simp only at ae h2 aO a2 cf dS lf
 simp only[Z]
 exact ⟨ae,eq_true (by omega),eq_true (by omega),eq_true (by omega),eq_true (by omega),eq_true (by omega),eq_true (by omega),eq_true (by omega)⟩
noncomputable def zT:List J->Option J:=cl (fun z:cE=>fS z) (fun z=>[d_ z]) (fun z=> .bool true)
theorem Xo (z:cE) (h:fS z) {args:List J} (he:args.map J.loose= [d_ z]):zT args=some (.bool true):=cI (fun z w h=>by first|(simp only[fR,fQ,List.cons.injEq,J.int.injEq,J.bool.injEq,J.sl.injEq,bT,bU,bY,bZ,bX,bG,bL,bV,bI,true_and,and_true] at h;simp[h];done)|(simp only[J.agg.injEq,fR,fQ,List.cons.injEq,J.int.injEq,J.bool.injEq,J.sl.injEq,bT,bU,bY,bZ,bX,bG,bL,bV,bI,true_and,and_true] at h;simp[h])) z h he
theorem qD:bl Tryz.prog G 14 zT:=by
 refine cJ mixed Xm O1 fun z aV=>?_
 obtain⟨b,p,bd,an⟩:=z
 obtain⟨ae,h2,aO,a2,cf,dS,lf,kY⟩:=Xn aV
 clear aV
 unfold i14
 rcases ae with rfl|rfl
 · skip
   refine al [0,1,2] fun F=>?_
   simp only[ak]
   intro f0 f1 f2
   simp[a8] at f0 f1 f2
   repeat' (first
    | refine ax ?_
    | ((fail_if_success (refine aQ ?_));(fail_if_success (refine aR ?_));refine aL ?_)
    | ((first|(refine az aM ?_;simp(disch:=omega) [h2,aO,a2,cf,kY,f0,f1,f2];(try(refine⟨by first|decide|rfl,?_⟩)))|(refine aK ?_;simp(disch:=omega) [h2,aO,a2,cf,kY,f0,f1,f2]));(try(refine al [0,1,2] ?_;intro F;simp only[ak];intro U ab aa;simp(disch:=omega) [h2,aO,a2,cf,kY,f0,f1,f2] at U ab aa;clear f0 f1 f2;have f0:=U;have f1:=ab;have f2:=aa;clear U ab aa)))
    | (refine aJ _ (by simp(disch:=omega) [h2,aO,a2,cf,kY,f0,f1,f2];rfl) (fun I=>?_) (fun I=>?_)<;>first|(exfalso;simp(disch:=omega) [h2,aO,a2,cf,kY] at I;done)|(exfalso;simp at I;omega)|(simp at I))
    | ((first|refine aH ?_|refine aN ?_);simp(disch:=omega) [h2,aO,a2,cf,kY,f0,f1,f2]))
 · skip
   refine al [0,1,2] fun F=>?_
   simp only[ak]
   intro f0 f1 f2
   simp[a8] at f0 f1 f2
   repeat' (first
    | refine ax ?_
    | ((fail_if_success (refine aQ ?_));(fail_if_success (refine aR ?_));refine aL ?_)
    | ((first|(refine az aM ?_;simp(disch:=omega) [h2,aO,a2,cf,kY,f0,f1,f2];(try(refine⟨by first|decide|rfl,?_⟩)))|(refine aK ?_;simp(disch:=omega) [h2,aO,a2,cf,kY,f0,f1,f2]));(try(refine al [0,1,2] ?_;intro F;simp only[ak];intro U ab aa;simp(disch:=omega) [h2,aO,a2,cf,kY,f0,f1,f2] at U ab aa;clear f0 f1 f2;have f0:=U;have f1:=ab;have f2:=aa;clear U ab aa)))
    | (refine aJ _ (by simp(disch:=omega) [h2,aO,a2,cf,kY,f0,f1,f2];rfl) (fun I=>?_) (fun I=>?_)<;>first|(exfalso;simp(disch:=omega) [h2,aO,a2,cf,kY] at I;done)|(exfalso;simp at I;omega)|(simp at I))
    | ((first|refine aH ?_|refine aN ?_);simp(disch:=omega) [h2,aO,a2,cf,kY,f0,f1,f2]))
theorem K6 {k:Nat} (h:k<=100000):IntKind.i64.wrap (-(-(Z k)))=Z k:=by
 rw[Int.neg_neg];exact gl (by omega)
theorem Xp {z:Int} (h:z.natAbs<4294967296):bS z<=1:=c8.2 (by rw[pa];exact h)
theorem K7 {f:cE} (h:fS f) (n:Nat):0<f.β^n:=Nat.pow_pos (by have:=h.b;omega)
end
end
section
set_option maxHeartbeats 8000000
open Go Go.Eng Go.RowKit
abbrev gz:dQ:= .cq [.bool,.sl (.int .u32)]
abbrev Dp:dQ:= .cq [.int .i64,.int .i64,.int .i64,.int .i64]
abbrev Xq (q:Bool × List Nat × List Nat):J:= .agg [.bool q.1,cH q.2.1 false,cH q.2.2 false]
theorem Xr {b:Bool} {l m:List Nat} (a6:Small l) (hm:Small m) {n:Nat} (aC:1<=n):eV (qL b l m n)<=n:=by
 have aS:(if val (m.take n)=0 then 1 else (val (m.take n):Int))≠0:=by split<;>omega
 have h:=Dh (x:=db b (val (l.take n))) aS
 have ae:bS (db b (val (l.take n)))<=n:=by rw[yX];exact zG a6 n
 have h2:bS (if val (m.take n)=0 then 1 else (val (m.take n):Int))<=n:=by
  split
  · rw[Ru];exact Nat.lt_of_lt_of_le (by rw[pa];decide) (mS aC)
  · rw[kS];exact zG hm n
 simp only[qL]
 omega
theorem Dq {H:Type} {f:dQ} {cF:List dQ} {cs:List J} {c4:List (DataW H)} (h:hW (f::cF) cs c4) {P:J->Prop} (aT:∀v,m' f v->P v/\v.cells= [v]):∃v b fZ,cs=v::b/\P v/\hW cF b (fZ:List (DataW H)):=by
 obtain⟨a,b,fZ,rfl,ae,h2,aO⟩:=OO h
 obtain⟨a2,cf⟩:=aT _ ae
 rw[cf] at h2
 exact ⟨_,b,fZ,(congrArg (· ++b) h2).symm,a2,aO⟩
theorem zU {H:Type} {cF:List dQ} {cs:List J} {c4:List (DataW H)} (h:hW (.int .i64::cF) cs c4):∃n b fZ,cs= .int .i64 n::b/\hW cF b (fZ:List (DataW H)):=by
 obtain⟨v,b,fZ,rfl,⟨n,rfl⟩,h2⟩:=Dq h (P:=fun v=>∃n,v= .int .i64 n) fun v aY=>by
  obtain⟨n,rfl,-⟩:=Bv aY
  exact ⟨⟨n,rfl⟩,rfl⟩
 exact ⟨n,b,fZ,rfl,h2⟩
theorem Xs {H:Type} {cF:List dQ} {cs:List J} {c4:List (DataW H)} (h:hW (.bool::cF) cs c4):∃n b fZ,cs= .bool n::b/\hW cF b (fZ:List (DataW H)):=by
 obtain⟨v,b,fZ,rfl,⟨n,rfl⟩,h2⟩:=Dq h (P:=fun v=>∃n,v= .bool n) fun v aY=>by
  obtain⟨n,rfl⟩:=OI aY
  exact ⟨⟨n,rfl⟩,rfl⟩
 exact ⟨n,b,fZ,rfl,h2⟩
theorem K8 {H:Type} {cF:List dQ} {cs:List J} {c4:List (DataW H)} (h:hW (.sl (.int .u32)::cF) cs c4):∃l b fZ,cs=cH l false::b/\Small l/\hW cF b (fZ:List (DataW H)):=by
 obtain⟨v,b,fZ,rfl,⟨n,rfl,aC⟩,h2⟩:=Dq h (P:=fun v=>∃n,v=cH n false/\Small n) fun v aY=>by
  obtain⟨n,rfl,-,aC⟩:=ON aY
  exact ⟨⟨n,rfl,aC⟩,rfl⟩
 exact ⟨n,b,fZ,rfl,aC,h2⟩
theorem K9 {H:Type} {gs cF:List dQ} {cs:List J} {c4:List (DataW H)} (h:hW (.cq gs::cF) cs c4):∃a b fZ K_,cs=a++b/\hW gs a (fZ:List (DataW H))/\hW cF b (K_:List (DataW H)):=by
 obtain⟨a,b,d,fZ,rfl,-,⟨es,-,ae⟩,h2⟩:=h
 exact ⟨a,b,es,fZ,rfl,ae,h2⟩
structure qO where
 r:Int
 p:Int
 bd:Int
 an:Int
abbrev rX (f:qO):J:= .agg [.int .i64 f.r,.int .i64 f.p,.int .i64 f.bd,.int .i64 f.an]
theorem ly {f g:qO}:rX f=rX g↔f=g:=⟨fun h=>by
 obtain⟨a,b,c,d⟩:=f
 obtain⟨ep,gF,c',ob⟩:=g
 simp only[J.agg.injEq,List.cons.injEq,J.int.injEq,true_and,and_true] at h
 obtain⟨ae,h2,aO,a2⟩:=h
 subst ae h2 aO a2;rfl,fun h=>by rw[h]⟩
theorem Xt {v:J} (h:m' Dp v):∃f,v=rX f:=by
 obtain⟨H,cs,c4,rfl,ab⟩:=FT h
 clear h
 obtain⟨a,cs,c4,rfl,aa⟩:=zU ab
 obtain⟨b,cs,c4,rfl,af⟩:=zU aa
 obtain⟨c,cs,c4,rfl,ad⟩:=zU af
 obtain⟨d,cs,c4,rfl,ah⟩:=zU ad
 obtain rfl:=yv ah
 exact ⟨⟨a,b,c,d⟩,rfl⟩
abbrev Xu (q:Bool × List Nat × List Nat):List J:=[.bool q.1,cH q.2.1 false,cH q.2.2 false]
theorem Xv {v:J} (h:m' (.cq [.cq [gz,.sl (.int .u32)],.cq [gz,.sl (.int .u32)]]) v):∃q r:Bool × List Nat × List Nat,v= .agg [.bool q.1,cH q.2.1 false,cH q.2.2 false,.bool r.1,cH r.2.1 false,cH r.2.2 false]/\(Small q.2.1/\Small q.2.2)/\Small r.2.1/\Small r.2.2:=by
 obtain⟨H,cs,c4,rfl,ab⟩:=FT h
 clear h
 have part:∀ {H:Type} {cF:List dQ} {cs:List J} {c4:List (DataW H)},hW (.cq [gz,.sl (.int .u32)]::cF) cs c4->∃(q:Bool × List Nat × List Nat) (b:List J) (fZ:List (DataW H)),cs=Xu q++b/\(Small q.2.1/\Small q.2.2)/\hW cF b fZ:=fun h=>by
  obtain⟨a,b,fZ,K_,rfl,ab,aA⟩:=K9 h
  obtain⟨a,b,es,qc,rfl,aa,af⟩:=K9 ab
  obtain⟨n,cs,c4,rfl,ad⟩:=Xs aa
  obtain⟨l,cs,c4,rfl,a6,ah⟩:=K8 ad
  obtain rfl:=yv ah
  obtain⟨m,cs,c4,rfl,hm,ag⟩:=K8 af
  obtain rfl:=yv ag
  exact ⟨(n,l,m),_,_,rfl,⟨a6,hm⟩,aA⟩
 obtain⟨x,b,c4,rfl,av,aa⟩:=part ab
 obtain⟨y,b,c4,rfl,bj,af⟩:=part aa
 obtain rfl:=yv af
 exact ⟨x,y,rfl,av,bj⟩
end
section
set_option maxHeartbeats 8000000
open Go Go.Eng Go.RowKit
theorem vA (a b:Rat):(a<b/\fb a b= -1)\/(a=b/\fb a b=0)\/(b<a/\fb a b=1):=by
 unfold fb
 by_cases ae:a<b
 · exact .inl ⟨ae,if_pos ae⟩
 · rw[if_neg ae]
   by_cases h2:b<a
   · exact .inr (.inr ⟨h2,if_pos h2⟩)
   · rw[if_neg h2];exact .inr (.inl ⟨by grind,rfl⟩)
theorem Xw (a b:Rat):fb b a= -fb a b:=by
 rcases vA a b with⟨ae,h2⟩|⟨ae,h2⟩|⟨ae,h2⟩<;>rcases vA b a with⟨aO,a2⟩|⟨aO,a2⟩|⟨aO,a2⟩<;>rw[h2,a2]<;>first|rfl|grind
def fo (x:eZ):Int:=if x.k=2 then (if x.neg=true then -1 else 1) else 0
theorem Xx {f:cE} (aT:f.hH) {x y:eZ} (av:kt f x) (bj:kt f y) (h:x.k=2\/y.k=2):fb (dR f x) (dR f y)=max (-1) (min (fo x - fo y) 1):=by
 have a9:∀z:eZ,kt f z->0<=fP f z/\((z.k=2/\fP f z=cj f.β (f.an+f.p))\/(z.k≠2/\fP f z<cj f.β (f.an+f.p))):=fun z aV=>by
  refine⟨Wt aT z,?_⟩
  rcases Ww aT aV with⟨ae,-,h2⟩|ae
  · exact .inr ⟨ae,h2⟩
  · exact .inl ae
 have bc:=h_ aT.b (f.an+f.p)
 have Xy:=a9 x av
 have Xz:=a9 y bj
 have lG:dR f x=if x.neg=true then -fP f x else fP f x:=rfl
 have mM:dR f y=if y.neg=true then -fP f y else fP f y:=rfl
 rw[lG,mM]
 clear lG mM a9 av bj
 generalize fP f x=a at*
 generalize fP f y=b at*
 generalize cj f.β (f.an+f.p)=B at*
 have key:∀u v:Rat,(u<v->fb u v= -1)/\(u=v->fb u v=0)/\(v<u->fb u v=1):=fun u v=>by
  rcases vA u v with⟨ae,h2⟩|⟨ae,h2⟩|⟨ae,h2⟩<;>refine⟨fun h=>?_,fun h=>?_,fun h=>?_⟩<;>first|exact h2|(exfalso;grind)
 unfold fo
 obtain⟨a0,a1⟩:=Xy
 obtain⟨b0,b1⟩:=Xz
 rcases a1 with⟨ab,a1⟩|⟨ab,a1⟩<;>rcases b1 with⟨aa,b1⟩|⟨aa,b1⟩<;>(try(exfalso;omega))<;>cases x.neg<;>cases y.neg<;>
  simp only[ab,aa,if_true,if_false,Bool.false_eq_true]<;>
  first
  | (rw[(key _ _).1 (by grind)];decide)
  | (rw[(key _ _).2.1 (by grind)];decide)
  | (rw[(key _ _).2.2 (by grind)];decide)
end
section
set_option maxHeartbeats 8000000
open Go Go.Eng Go.RowKit
attribute [local simp] bH.m bH.o bH.n bH.g hy fh dG dr dJ evalOp.eq_1 evalOp.eq_2 evalOp.eq_3 evalOp.eq_4 evalOp.eq_5 evalOp.eq_6 evalOp.eq_7 evalOp.eq_8 evalOp.eq_9 evalOp.eq_10 evalOp.eq_11 evalOp.eq_12 evalOp.eq_13 evalOp.eq_14 evalOp.eq_15 evalOp.eq_16 evalOp.eq_17 evalOp.eq_18 evalOp.eq_19 evalOp.eq_20 evalOp.eq_21 evalOp.eq_22 evalOp.eq_23 evalOp.eq_24 evalOp.eq_25 evalOp.eq_27 evalOp.eq_28 evalOp.eq_29 kl bn.cu dq aG aF.new a8 J.cells J.dp J.e7 J.ft il iq im ir iv iu jK jL jM gY gZ cut partOf bound elems jO jP jQ jR jS jT jU jV jW jX jY jZ h1 j0 j1 j2 j3 j4 j5 j6 j7 j8 j9 j_ j' ka kb kc kd ke kf kg kh ki kj kk ff e8 e1 gi iw hA aF.close aF.set h3 km kn ko jN hB gD gq gJ gr hX gu gK hY hZ h0 gf gg gh gd ix bI hU iy hV iz iA fY iB fw iC iD iE gT jJ iF iG iH iI iJ iK iL iM iN iO iP iQ iR iS iT iU iV iW iX hf iY iZ i_ i' ja jb jc jd je jf jg jh ji jj jk
attribute [local simp high] jG jH jI jl jm jn jo jq jr js jt ju jv jw jx jy jz jA jB jC jD jE jF
attribute [local simp] aS List.getElem?_cons_zero List.getElem?_cons_succ fa eh gl Nat.mod_eq_of_lt kH kI kJ kK gL kL kM kN
section
attribute [local irreducible] cQ
attribute [local simp] ek eL du
noncomputable def xw:FuncId->Option (List J->Option J):=da [(14,zT),(36,zS),(47,ur),(48,oq)]
theorem XA:∀f T,xw f=some T->bl Tryz.prog G f T:=dc (by simp only[List.forall_mem_cons];exact ⟨qD,Xk,HR,wL,fun _ h=>absurd h (by simp)⟩)
theorem XB:xw 14=some zT:=rfl
theorem XC:xw 36=some zS:=rfl
theorem XD:xw 47=some ur:=rfl
theorem XE:xw 48=some oq:=rfl
attribute [local simp] XB XC XD XE
noncomputable def xx:List J->Option J:=cl (fun z:cE × eZ=>fS z.1/\kt z.1 z.2) (fun z=>[d_ z.1,gN z.2]) (fun z=> .bool true)
theorem XF (z:cE × eZ) (h:fS z.1/\kt z.1 z.2) {args:List J} (he:args.map J.loose= [d_ z.1,gN z.2]):xx args=some (.bool true):=cI (fun z w h=>by first|(simp only[ly,fR,fQ,List.cons.injEq,J.int.injEq,J.bool.injEq,J.sl.injEq,bT,bU,bY,bZ,bX,bG,bL,bV,bI,true_and,and_true] at h;simp[h];done)|(simp only[J.agg.injEq,ly,fR,fQ,List.cons.injEq,J.int.injEq,J.bool.injEq,J.sl.injEq,bT,bU,bY,bZ,bX,bG,bL,bV,bI,true_and,and_true] at h;simp[h])) z h he
theorem XG:bl Tryz.prog G 16 xx:=by
 refine cJ mixed XA O2 fun z aV=>?_
 obtain⟨f,x⟩:=z
 obtain⟨aT,av⟩:=aV
 simp only at aT av|-
 have t1:=Xo f aT (args:=[d_ f]) (by simp)
 obtain⟨k,n,m,e⟩:=x
 unfold i16
 rcases av with⟨aI,hm,he⟩|⟨aI,eO,he⟩
 · simp only at aI hm he
   subst hm he
   have bM:ai 0= []:=eX
   rcases aI with rfl|rfl
   · skip
     refine al [0,1,2,3,4,17,20,61] fun F=>?_
     simp only[ak]
     intro f0 f1 f2 f3 f4 f17 f20 f61
     simp[a8] at f0 f1 f2 f3 f4 f17 f20 f61
     repeat' (first
      | refine ax ?_
      | ((fail_if_success (refine aQ ?_));(fail_if_success (refine aR ?_));refine aL ?_)
      | ((first|(refine az aM ?_;simp(disch:=omega) [t1,bM,f0,f1,f2,f3,f4,f17,f20,f61];(try(refine⟨by first|decide|rfl,?_⟩)))|(refine aK ?_;simp(disch:=omega) [t1,bM,f0,f1,f2,f3,f4,f17,f20,f61]));(try(refine al [0,1,2,3,4,17,20,61] ?_;intro F;simp only[ak];intro U ab aa af ad bx bO cM;simp(disch:=omega) [t1,bM,f0,f1,f2,f3,f4,f17,f20,f61] at U ab aa af ad bx bO cM;clear f0 f1 f2 f3 f4 f17 f20 f61;have f0:=U;have f1:=ab;have f2:=aa;have f3:=af;have f4:=ad;have f17:=bx;have f20:=bO;have f61:=cM;clear U ab aa af ad bx bO cM)))
      | (refine aJ _ (by simp(disch:=omega) [t1,bM,f0,f1,f2,f3,f4,f17,f20,f61];rfl) (fun I=>?_) (fun I=>?_)<;>first|(exfalso;simp(disch:=omega) [t1,bM] at I;done)|(exfalso;simp at I;omega)|(simp at I))
      | ((first|refine aH ?_|refine aN ?_);simp(disch:=omega) [t1,bM,f0,f1,f2,f3,f4,f17,f20,f61]))
   · skip
     refine al [0,1,2,3,4,17,20,61] fun F=>?_
     simp only[ak]
     intro f0 f1 f2 f3 f4 f17 f20 f61
     simp[a8] at f0 f1 f2 f3 f4 f17 f20 f61
     repeat' (first
      | refine ax ?_
      | ((fail_if_success (refine aQ ?_));(fail_if_success (refine aR ?_));refine aL ?_)
      | ((first|(refine az aM ?_;simp(disch:=omega) [t1,bM,f0,f1,f2,f3,f4,f17,f20,f61];(try(refine⟨by first|decide|rfl,?_⟩)))|(refine aK ?_;simp(disch:=omega) [t1,bM,f0,f1,f2,f3,f4,f17,f20,f61]));(try(refine al [0,1,2,3,4,17,20,61] ?_;intro F;simp only[ak];intro U ab aa af ad bx bO cM;simp(disch:=omega) [t1,bM,f0,f1,f2,f3,f4,f17,f20,f61] at U ab aa af ad bx bO cM;clear f0 f1 f2 f3 f4 f17 f20 f61;have f0:=U;have f1:=ab;have f2:=aa;have f3:=af;have f4:=ad;have f17:=bx;have f20:=bO;have f61:=cM;clear U ab aa af ad bx bO cM)))
      | (refine aJ _ (by simp(disch:=omega) [t1,bM,f0,f1,f2,f3,f4,f17,f20,f61];rfl) (fun I=>?_) (fun I=>?_)<;>first|(exfalso;simp(disch:=omega) [t1,bM] at I;done)|(exfalso;simp at I;omega)|(simp at I))
      | ((first|refine aH ?_|refine aN ?_);simp(disch:=omega) [t1,bM,f0,f1,f2,f3,f4,f17,f20,f61]))
 · simp only at aI eO he
   subst aI
   have dO:=aT.dO
   have e2:=aT.e2
   have a6:=mn (b:=f.β) (n:=f.p) (by have:=aT.b;omega)
   have m7:=mn (b:=f.β) (n:=f.p - 1) (by have:=aT.b;omega)
   obtain⟨a1,cP,fV,hE,ga,hn,s4,y9⟩:=K0 aT eO he
   have oP:(f.p<(ai m).length)=False:=eq_false (by omega)
   have mF:(f.bd<=e)=True:=eq_true eO.ge
   have gX:(e<=f.an)=True:=eq_true he
   have hI:((ai m).length == 0)=false:=by simpa using show (ai m).length≠0 by omega
   have t2:=P5 (l:=ai m) (e:=false) (by omega)
   have t3:=K5 (f,f.p) ⟨aT.b,by simp only;omega⟩ (args:=[d_ f,bp f.p]) (by simp)
   have t4:=K5 (f,f.p - 1) ⟨aT.b,by simp only;omega⟩ (args:=[d_ f,bp (f.p - 1)]) (by simp)
   have t5:=wK (a:=ai m) (b:=ai (f.β^f.p)) (e:=false) (e':=false) (dW _) (dW _) (by omega) (by omega)
   have t6:=wK (a:=ai m) (b:=ai (f.β^(f.p - 1))) (e:=false) (e':=false) (dW _) (dW _) (by omega) (by omega)
   simp only[du] at t5 t6
   rw[hE] at t2
   rw[s4] at t5
   simp only at t3 t4
   clear eO a6 m7 s4 fV hE
   generalize f.β^f.p=u at*
   generalize f.β^(f.p - 1)=v at*
   generalize cT m v=c at*
   have bz:=K1
   by_cases dI:e=f.bd
   · subst dI
     refine al [0,1,2,3,4,17,20,61] fun F=>?_
     simp only[ak]
     intro f0 f1 f2 f3 f4 f17 f20 f61
     simp[a8] at f0 f1 f2 f3 f4 f17 f20 f61
     repeat' (first
      | refine ax ?_
      | ((fail_if_success (refine aQ ?_));(fail_if_success (refine aR ?_));refine aL ?_)
      | ((first|(refine az aM ?_;simp(disch:=omega) [t1,t2,t3,t5,hI,cP,oP,hn,gX,bz,f0,f1,f2,f3,f4,f17,f20,f61];(try(refine⟨by first|decide|rfl,?_⟩)))|(refine aK ?_;simp(disch:=omega) [t1,t2,t3,t5,hI,cP,oP,hn,gX,bz,f0,f1,f2,f3,f4,f17,f20,f61]));(try(refine al [0,1,2,3,4,17,20,61] ?_;intro F;simp only[ak];intro U ab aa af ad bx bO cM;simp(disch:=omega) [t1,t2,t3,t5,hI,cP,oP,hn,gX,bz,f0,f1,f2,f3,f4,f17,f20,f61] at U ab aa af ad bx bO cM;clear f0 f1 f2 f3 f4 f17 f20 f61;have f0:=U;have f1:=ab;have f2:=aa;have f3:=af;have f4:=ad;have f17:=bx;have f20:=bO;have f61:=cM;clear U ab aa af ad bx bO cM)))
      | (refine aJ _ (by simp(disch:=omega) [t1,t2,t3,t5,hI,cP,oP,hn,gX,bz,f0,f1,f2,f3,f4,f17,f20,f61];rfl) (fun I=>?_) (fun I=>?_)<;>first|(exfalso;simp(disch:=omega) [t1,t2,t3,t5,hI,cP,oP,hn,gX,bz] at I;done)|(exfalso;simp at I;omega)|(simp at I))
      | ((first|refine aH ?_|refine aN ?_);simp(disch:=omega) [t1,t2,t3,t5,hI,cP,oP,hn,gX,bz,f0,f1,f2,f3,f4,f17,f20,f61]))
   · have n9:=y9.resolve_left dI
     have n_:(e == f.bd)=false:=by simpa using dI
     refine al [0,1,2,3,4,17,20,61] fun F=>?_
     simp only[ak]
     intro f0 f1 f2 f3 f4 f17 f20 f61
     simp[a8] at f0 f1 f2 f3 f4 f17 f20 f61
     repeat' (first
      | refine ax ?_
      | ((fail_if_success (refine aQ ?_));(fail_if_success (refine aR ?_));refine aL ?_)
      | ((first|(refine az aM ?_;simp(disch:=omega) [t1,t2,t3,t4,t5,t6,hI,cP,oP,ga,hn,mF,gX,n9,dI,n_,bz,f0,f1,f2,f3,f4,f17,f20,f61];(try(refine⟨by first|decide|rfl,?_⟩)))|(refine aK ?_;simp(disch:=omega) [t1,t2,t3,t4,t5,t6,hI,cP,oP,ga,hn,mF,gX,n9,dI,n_,bz,f0,f1,f2,f3,f4,f17,f20,f61]));(try(refine al [0,1,2,3,4,17,20,61] ?_;intro F;simp only[ak];intro U ab aa af ad bx bO cM;simp(disch:=omega) [t1,t2,t3,t4,t5,t6,hI,cP,oP,ga,hn,mF,gX,n9,dI,n_,bz,f0,f1,f2,f3,f4,f17,f20,f61] at U ab aa af ad bx bO cM;clear f0 f1 f2 f3 f4 f17 f20 f61;have f0:=U;have f1:=ab;have f2:=aa;have f3:=af;have f4:=ad;have f17:=bx;have f20:=bO;have f61:=cM;clear U ab aa af ad bx bO cM)))
      | (refine aJ _ (by simp(disch:=omega) [t1,t2,t3,t4,t5,t6,hI,cP,oP,ga,hn,mF,gX,n9,dI,n_,bz,f0,f1,f2,f3,f4,f17,f20,f61];rfl) (fun I=>?_) (fun I=>?_)<;>first|(exfalso;simp(disch:=omega) [t1,t2,t3,t4,t5,t6,hI,cP,oP,ga,hn,mF,gX,n9,dI,n_,bz] at I;done)|(exfalso;simp at I;omega)|(simp at I))
      | ((first|refine aH ?_|refine aN ?_);simp(disch:=omega) [t1,t2,t3,t4,t5,t6,hI,cP,oP,ga,hn,mF,gX,n9,dI,n_,bz,f0,f1,f2,f3,f4,f17,f20,f61]))
theorem K' {f:cE} (aT:fS f) {x:eZ} (h:kt f x):(ai x.m).length<=3/\ -1000<=x.e/\x.e<=1000/\x.k<=2/\ -40<=x.e/\x.e<=300:=by
 have:=aT.ck
 have:=aT.h2
 rcases h with⟨ae,h2,aO⟩|⟨ae,h2,aO⟩
 · rw[h2,aO,eX];exact ⟨by simp,by omega,by omega,by omega,by omega,by omega⟩
 · have:=h2.ge
   exact ⟨Dk aT h2.lt,by omega,by omega,by omega,by omega,by omega⟩
end
section
attribute [local irreducible] cQ
attribute [local simp] ek eL du
noncomputable def zV:FuncId->Option (List J->Option J):=da [(50,rW),(46,ng),(52,nO)]
theorem XH:∀f T,zV f=some T->bl Tryz.prog G f T:=dc (by simp only[List.forall_mem_cons];exact ⟨Dl,vz,w9,fun _ h=>absurd h (by simp)⟩)
theorem XI:zV 50=some rW:=rfl
theorem XJ:zV 46=some ng:=rfl
theorem XK:zV 52=some nO:=rfl
attribute [local simp] XI XJ XK
noncomputable def tx:List J->Option J:=cl (fun z:Rat × cE × Int=>(z.2.1.β=2\/z.2.1.β=10)/\eV z.1<=40/\ -500<=z.2.2/\z.2.2<=500) (fun z=>[qr z.1,d_ z.2.1,.int .i64 z.2.2]) (fun z=> .cb [a7 (cW z.2.1.β z.1 z.2.2:Nat),a7 (b9 z.2.1.β z.1 z.2.2:Nat)])
theorem La (z:Rat × cE × Int) (h:(z.2.1.β=2\/z.2.1.β=10)/\eV z.1<=40/\ -500<=z.2.2/\z.2.2<=500) {args:List J} (he:args.map J.loose= [qr z.1,d_ z.2.1,.int .i64 z.2.2]):tx args=some (.cb [a7 (cW z.2.1.β z.1 z.2.2:Nat),a7 (b9 z.2.1.β z.1 z.2.2:Nat)]):=cI (fun z w h=>by first|(simp only[ly,fR,fQ,List.cons.injEq,J.int.injEq,J.bool.injEq,J.sl.injEq,bT,bU,bY,bZ,bX,bG,bL,bV,bI,true_and,and_true] at h;simp[h];done)|(simp only[J.agg.injEq,ly,fR,fQ,List.cons.injEq,J.int.injEq,J.bool.injEq,J.sl.injEq,bT,bU,bY,bZ,bX,bG,bL,bV,bI,true_and,and_true] at h;simp[h])) z h he
theorem Lb:bl Tryz.prog G 75 tx:=by
 refine cJ mixed XH Gt fun z aV=>?_
 obtain⟨q,f,n⟩:=z
 obtain⟨au,bo,ae,h2⟩:=aV
 simp only at au bo ae h2|-
 obtain⟨k,aI,aC⟩:∃k:Nat,k<=500/\(n=Z k\/n= -(Z k)/\0<k):=by
  by_cases aC:0<=n
  · exact ⟨n.toNat,by omega,.inl (by simp only[Z];omega)⟩
  · exact ⟨(-n).toNat,by omega,.inr (by simp only[Z];omega)⟩
 clear ae h2
 have a6:=mn (b:=f.β) (n:=k) (by omega)
 have qI:(ai q.num.natAbs).length<=40/\(ai q.den).length<=40:=by simp only[eV,bS] at bo;omega
 have t1:=rV (f,k) ⟨au,by simp only;omega⟩ (args:=[d_ f,bp k]) (by simp)
 have t2:=tv (false,f.β^k) (by simp only;omega) (args:=[.bool false,aw (f.β^k)]) (by simp)
 have t3:=tv (false,q.num.natAbs) (by simp only;omega) (args:=[.bool false,aw q.num.natAbs]) (by simp)
 have t4:=tv (false,q.den) (by simp only;omega) (args:=[.bool false,aw q.den]) (by simp)
 have Dr:∀x:Nat,db false x=(x:Int):=fun x=>rfl
 simp only[Dr] at t1 t2 t3 t4
 unfold i75
 rcases aC with rfl|⟨rfl,wX⟩
 · have aj:cW f.β q (Z k)=q.num.natAbs:=if_pos (by simp only[Z];omega)
   have aq:b9 f.β q (Z k)=q.den*f.β^k:=if_pos (by simp only[Z];omega)
   rw[aj,aq]
   have t5:=s9 ((q.den:Int),((f.β^k:Nat):Int)) ⟨by simp only[kS];omega,by simp only[kS];omega,by simp only[kS];omega⟩ (args:=[a7 (q.den:Int),a7 ((f.β^k:Nat):Int)]) (by simp)
   simp only[<-Int.natCast_mul] at t5
   clear aj aq a6 qI
   generalize ((q.den*f.β^k:Nat):Int)=r at*
   generalize ((f.β^k:Nat):Int)=u at*
   generalize f.β^k=v at*
   generalize ((q.num.natAbs:Nat):Int)=a at*
   generalize ((q.den:Nat):Int)=d at*
   refine al [0,1,2,3,4,6,7,8,9,18] fun F=>?_
   simp only[ak]
   intro f0 f1 f2 f3 f4 f6 f7 f8 f9 f18
   simp[a8] at f0 f1 f2 f3 f4 f6 f7 f8 f9 f18
   repeat' (first
    | refine ax ?_
    | ((fail_if_success (refine aQ ?_));(fail_if_success (refine aR ?_));refine aL ?_)
    | ((first|(refine az aM ?_;simp(disch:=omega) [t1,t2,t3,t4,t5,f0,f1,f2,f3,f4,f6,f7,f8,f9,f18];(try(refine⟨by first|decide|rfl,?_⟩)))|(refine aK ?_;simp(disch:=omega) [t1,t2,t3,t4,t5,f0,f1,f2,f3,f4,f6,f7,f8,f9,f18]));(try(refine al [0,1,2,3,4,6,7,8,9,18] ?_;intro F;simp only[ak];intro U ab aa af ad ag ar ao aA bP;simp(disch:=omega) [t1,t2,t3,t4,t5,f0,f1,f2,f3,f4,f6,f7,f8,f9,f18] at U ab aa af ad ag ar ao aA bP;clear f0 f1 f2 f3 f4 f6 f7 f8 f9 f18;have f0:=U;have f1:=ab;have f2:=aa;have f3:=af;have f4:=ad;have f6:=ag;have f7:=ar;have f8:=ao;have f9:=aA;have f18:=bP;clear U ab aa af ad ag ar ao aA bP)))
    | (refine aJ _ (by simp(disch:=omega) [t1,t2,t3,t4,t5,f0,f1,f2,f3,f4,f6,f7,f8,f9,f18];rfl) (fun I=>?_) (fun I=>?_)<;>first|(exfalso;simp(disch:=omega) [t1,t2,t3,t4,t5] at I;done)|(exfalso;simp at I;omega)|(simp at I))
    | ((first|refine aH ?_|refine aN ?_);simp(disch:=omega) [t1,t2,t3,t4,t5,f0,f1,f2,f3,f4,f6,f7,f8,f9,f18]))
 · have aj:cW f.β q (-(Z k))=q.num.natAbs*f.β^k:=by
    unfold cW
    rw[if_neg (by simp only[Z];omega),Int.neg_neg,fw]
   have aq:b9 f.β q (-(Z k))=q.den:=if_neg (by simp only[Z];omega)
   rw[aj,aq]
   have bm:(Z 0<= -(Z k))=False:=eq_false (by simp only[Z];omega)
   have wn:=K6 (k:=k) (by omega)
   have t5:=s9 ((q.num.natAbs:Int),((f.β^k:Nat):Int)) ⟨by simp only[kS];omega,by simp only[kS];omega,by simp only[kS];omega⟩ (args:=[a7 (q.num.natAbs:Int),a7 ((f.β^k:Nat):Int)]) (by simp)
   simp only[<-Int.natCast_mul] at t5
   clear aj aq a6 qI
   generalize ((q.num.natAbs*f.β^k:Nat):Int)=r at*
   generalize ((f.β^k:Nat):Int)=u at*
   generalize f.β^k=v at*
   generalize ((q.num.natAbs:Nat):Int)=a at*
   generalize ((q.den:Nat):Int)=d at*
   refine al [0,1,2,3,4,6,7,8,9,18] fun F=>?_
   simp only[ak]
   intro f0 f1 f2 f3 f4 f6 f7 f8 f9 f18
   simp[a8] at f0 f1 f2 f3 f4 f6 f7 f8 f9 f18
   repeat' (first
    | refine ax ?_
    | ((fail_if_success (refine aQ ?_));(fail_if_success (refine aR ?_));refine aL ?_)
    | ((first|(refine az aM ?_;simp(disch:=omega) [bm,wn,t1,t2,t3,t4,t5,f0,f1,f2,f3,f4,f6,f7,f8,f9,f18];(try(refine⟨by first|decide|rfl,?_⟩)))|(refine aK ?_;simp(disch:=omega) [bm,wn,t1,t2,t3,t4,t5,f0,f1,f2,f3,f4,f6,f7,f8,f9,f18]));(try(refine al [0,1,2,3,4,6,7,8,9,18] ?_;intro F;simp only[ak];intro U ab aa af ad ag ar ao aA bP;simp(disch:=omega) [bm,wn,t1,t2,t3,t4,t5,f0,f1,f2,f3,f4,f6,f7,f8,f9,f18] at U ab aa af ad ag ar ao aA bP;clear f0 f1 f2 f3 f4 f6 f7 f8 f9 f18;have f0:=U;have f1:=ab;have f2:=aa;have f3:=af;have f4:=ad;have f6:=ag;have f7:=ar;have f8:=ao;have f9:=aA;have f18:=bP;clear U ab aa af ad ag ar ao aA bP)))
    | (refine aJ _ (by simp(disch:=omega) [bm,wn,t1,t2,t3,t4,t5,f0,f1,f2,f3,f4,f6,f7,f8,f9,f18];rfl) (fun I=>?_) (fun I=>?_)<;>first|(exfalso;simp(disch:=omega) [bm,wn,t1,t2,t3,t4,t5] at I;done)|(exfalso;simp at I;omega)|(simp at I))
    | ((first|refine aH ?_|refine aN ?_);simp(disch:=omega) [bm,wn,t1,t2,t3,t4,t5,f0,f1,f2,f3,f4,f6,f7,f8,f9,f18]))
noncomputable def zW:FuncId->Option (List J->Option J):=da [(46,ng),(51,nD),(107,ow)]
theorem XL:∀f T,zW f=some T->bl Tryz.prog G f T:=dc (by simp only[List.forall_mem_cons];exact ⟨vz,wZ,wT,fun _ h=>absurd h (by simp)⟩)
theorem XM:zW 46=some ng:=rfl
theorem XN:zW 51=some nD:=rfl
theorem XO:zW 107=some ow:=rfl
attribute [local simp] XM XN XO
noncomputable def zX:List J->Option J:=cl (fun z:cE × Bool=>fS z.1) (fun z=>[d_ z.1,.bool z.2]) (fun z=>gN (tt z.1 z.2))
theorem XP (z:cE × Bool) (h:fS z.1) {args:List J} (he:args.map J.loose= [d_ z.1,.bool z.2]):zX args=some (gN (tt z.1 z.2)):=cI (fun z w h=>by first|(simp only[ly,fR,fQ,List.cons.injEq,J.int.injEq,J.bool.injEq,J.sl.injEq,bT,bU,bY,bZ,bX,bG,bL,bV,bI,true_and,and_true] at h;simp[h];done)|(simp only[J.agg.injEq,ly,fR,fQ,List.cons.injEq,J.int.injEq,J.bool.injEq,J.sl.injEq,bT,bU,bY,bZ,bX,bG,bL,bV,bI,true_and,and_true] at h;simp[h])) z h he
theorem XQ:bl Tryz.prog G 81 zX:=by
 refine cJ mixed XL Gz fun z aV=>?_
 obtain⟨f,neg⟩:=z
 simp only at aV|-
 have a6:=mn (b:=f.β) (n:=f.p) (by have:=aV.b;omega)
 have bc:=aV.e2
 have Df:=K7 aV f.p
 have t1:=rV (f,f.p) ⟨aV.b,by simp only;omega⟩ (args:=[d_ f,bp f.p]) (by simp)
 have t2:=yR (a:=f.β^f.p) (b:=1) (e:=false) (e':=false) (by omega) (by rw[lX];decide)
 have t3:=wY 1 (by decide) (args:=[e3 1]) (by simp)
 rw[if_neg (by omega)] at t2
 simp only at t1
 simp only[tt]
 clear aV a6 bc Df
 generalize f.β^f.p - 1=v at*
 generalize f.β^f.p=u at*
 unfold i81
 refine al [0,1,2,4,5] fun F=>?_
 simp only[ak]
 intro f0 f1 f2 f4 f5
 simp[a8] at f0 f1 f2 f4 f5
 repeat' (first
  | refine ax ?_
  | ((fail_if_success (refine aQ ?_));(fail_if_success (refine aR ?_));refine aL ?_)
  | ((first|(refine az aM ?_;simp(disch:=omega) [t1,t2,t3,f0,f1,f2,f4,f5];(try(refine⟨by first|decide|rfl,?_⟩)))|(refine aK ?_;simp(disch:=omega) [t1,t2,t3,f0,f1,f2,f4,f5]));(try(refine al [0,1,2,4,5] ?_;intro F;simp only[ak];intro U ab aa ad ah;simp(disch:=omega) [t1,t2,t3,f0,f1,f2,f4,f5] at U ab aa ad ah;clear f0 f1 f2 f4 f5;have f0:=U;have f1:=ab;have f2:=aa;have f4:=ad;have f5:=ah;clear U ab aa ad ah)))
  | (refine aJ _ (by simp(disch:=omega) [t1,t2,t3,f0,f1,f2,f4,f5];rfl) (fun I=>?_) (fun I=>?_)<;>first|(exfalso;simp(disch:=omega) [t1,t2,t3] at I;done)|(exfalso;simp at I;omega)|(simp at I))
  | ((first|refine aH ?_|refine aN ?_);simp(disch:=omega) [t1,t2,t3,f0,f1,f2,f4,f5]))
noncomputable def xy:FuncId->Option (List J->Option J):=da [(13,tw),(46,ng),(44,uF),(45,mz)]
theorem XR:∀f T,xy f=some T->bl Tryz.prog G f T:=dc (by simp only[List.forall_mem_cons];exact ⟨KX,vz,IS,sN,fun _ h=>absurd h (by simp)⟩)
theorem XS:xy 13=some tw:=rfl
theorem XT:xy 46=some ng:=rfl
theorem XU:xy 44=some uF:=rfl
theorem XV:xy 45=some mz:=rfl
attribute [local simp] XS XT XU XV
noncomputable def zY:List J->Option J:=cl (fun z:cE × eZ=>fS z.1/\kt z.1 z.2) (fun z=>[d_ z.1,gN z.2]) (fun z=> .bool true)
theorem XW (z:cE × eZ) (h:fS z.1/\kt z.1 z.2) {args:List J} (he:args.map J.loose= [d_ z.1,gN z.2]):zY args=some (.bool true):=cI (fun z w h=>by first|(simp only[ly,fR,fQ,List.cons.injEq,J.int.injEq,J.bool.injEq,J.sl.injEq,bT,bU,bY,bZ,bX,bG,bL,bV,bI,true_and,and_true] at h;simp[h];done)|(simp only[J.agg.injEq,ly,fR,fQ,List.cons.injEq,J.int.injEq,J.bool.injEq,J.sl.injEq,bT,bU,bY,bZ,bX,bG,bL,bV,bI,true_and,and_true] at h;simp[h])) z h he
theorem XX:bl Tryz.prog G 15 zY:=by
 refine cJ mixed XR F5 fun z aV=>?_
 obtain⟨f,x⟩:=z
 obtain⟨aT,av⟩:=aV
 simp only at aT av|-
 have t1:=aT.KY
 obtain⟨k,n,m,e⟩:=x
 unfold i15
 rcases av with⟨aI,hm,he⟩|⟨aI,eO,he⟩
 · simp only at aI hm he
   subst hm he
   have bM:ai 0= []:=eX
   rcases aI with rfl|rfl
   · skip
     refine al [0,1,2,3,4,7,15,63] fun F=>?_
     simp only[ak]
     intro f0 f1 f2 f3 f4 f7 f15 f63
     simp[a8] at f0 f1 f2 f3 f4 f7 f15 f63
     repeat' (first
      | refine ax ?_
      | ((fail_if_success (refine aQ ?_));(fail_if_success (refine aR ?_));refine aL ?_)
      | ((first|(refine az aM ?_;simp(disch:=omega) [t1,bM,f0,f1,f2,f3,f4,f7,f15,f63];(try(refine⟨by first|decide|rfl,?_⟩)))|(refine aK ?_;simp(disch:=omega) [t1,bM,f0,f1,f2,f3,f4,f7,f15,f63]));(try(refine al [0,1,2,3,4,7,15,63] ?_;intro F;simp only[ak];intro U ab aa af ad ar bE m2;simp(disch:=omega) [t1,bM,f0,f1,f2,f3,f4,f7,f15,f63] at U ab aa af ad ar bE m2;clear f0 f1 f2 f3 f4 f7 f15 f63;have f0:=U;have f1:=ab;have f2:=aa;have f3:=af;have f4:=ad;have f7:=ar;have f15:=bE;have f63:=m2;clear U ab aa af ad ar bE m2)))
      | (refine aJ _ (by simp(disch:=omega) [t1,bM,f0,f1,f2,f3,f4,f7,f15,f63];rfl) (fun I=>?_) (fun I=>?_)<;>first|(exfalso;simp(disch:=omega) [t1,bM] at I;done)|(exfalso;simp at I;omega)|(simp at I))
      | ((first|refine aH ?_|refine aN ?_);simp(disch:=omega) [t1,bM,f0,f1,f2,f3,f4,f7,f15,f63]))
   · skip
     refine al [0,1,2,3,4,7,15,63] fun F=>?_
     simp only[ak]
     intro f0 f1 f2 f3 f4 f7 f15 f63
     simp[a8] at f0 f1 f2 f3 f4 f7 f15 f63
     repeat' (first
      | refine ax ?_
      | ((fail_if_success (refine aQ ?_));(fail_if_success (refine aR ?_));refine aL ?_)
      | ((first|(refine az aM ?_;simp(disch:=omega) [t1,bM,f0,f1,f2,f3,f4,f7,f15,f63];(try(refine⟨by first|decide|rfl,?_⟩)))|(refine aK ?_;simp(disch:=omega) [t1,bM,f0,f1,f2,f3,f4,f7,f15,f63]));(try(refine al [0,1,2,3,4,7,15,63] ?_;intro F;simp only[ak];intro U ab aa af ad ar bE m2;simp(disch:=omega) [t1,bM,f0,f1,f2,f3,f4,f7,f15,f63] at U ab aa af ad ar bE m2;clear f0 f1 f2 f3 f4 f7 f15 f63;have f0:=U;have f1:=ab;have f2:=aa;have f3:=af;have f4:=ad;have f7:=ar;have f15:=bE;have f63:=m2;clear U ab aa af ad ar bE m2)))
      | (refine aJ _ (by simp(disch:=omega) [t1,bM,f0,f1,f2,f3,f4,f7,f15,f63];rfl) (fun I=>?_) (fun I=>?_)<;>first|(exfalso;simp(disch:=omega) [t1,bM] at I;done)|(exfalso;simp at I;omega)|(simp at I))
      | ((first|refine aH ?_|refine aN ?_);simp(disch:=omega) [t1,bM,f0,f1,f2,f3,f4,f7,f15,f63]))
 · simp only at aI eO he
   subst aI
   have dO:=aT.dO
   have e2:=aT.e2
   have a6:=mn (b:=f.β) (n:=f.p) (by have:=aT.b;omega)
   have m7:=mn (b:=f.β) (n:=f.p - 1) (by have:=aT.b;omega)
   obtain⟨a1,cP,fV,hE,ga,hn,s4,y9⟩:=K0 aT eO he
   have mF:(f.bd<=e)=True:=eq_true eO.ge
   have gX:(e<=f.an)=True:=eq_true he
   have hI:((ai m).length == 0)=false:=by simpa using show (ai m).length≠0 by omega
   have t2:=Rt (ai m) (by omega) (args:=[aw m]) (by simp)
   have t3:=rV (f,f.p) ⟨aT.b,by simp only;omega⟩ (args:=[d_ f,bp f.p]) (by simp)
   have t4:=rV (f,f.p - 1) ⟨aT.b,by simp only;omega⟩ (args:=[d_ f,bp (f.p - 1)]) (by simp)
   have t5:=qu (a:=m) (b:=f.β^f.p) (e:=false) (e':=false) (by omega) (by omega)
   have t6:=qu (a:=m) (b:=f.β^(f.p - 1)) (e:=false) (e':=false) (by omega) (by omega)
   rw[hE] at t2
   rw[s4] at t5
   simp only at t3 t4
   clear eO a6 m7 s4 fV hE
   generalize f.β^f.p=u at*
   generalize f.β^(f.p - 1)=v at*
   generalize cT m v=c at*
   have bz:=K1
   have b4:=W_
   by_cases dI:e=f.bd
   · subst dI
     refine al [0,1,2,3,4,7,15,63] fun F=>?_
     simp only[ak]
     intro f0 f1 f2 f3 f4 f7 f15 f63
     simp[a8] at f0 f1 f2 f3 f4 f7 f15 f63
     repeat' (first
      | refine ax ?_
      | ((fail_if_success (refine aQ ?_));(fail_if_success (refine aR ?_));refine aL ?_)
      | ((first|(refine az aM ?_;simp(disch:=omega) [t1,t2,t3,t5,hI,cP,hn,gX,bz,b4,f0,f1,f2,f3,f4,f7,f15,f63];(try(refine⟨by first|decide|rfl,?_⟩)))|(refine aK ?_;simp(disch:=omega) [t1,t2,t3,t5,hI,cP,hn,gX,bz,b4,f0,f1,f2,f3,f4,f7,f15,f63]));(try(refine al [0,1,2,3,4,7,15,63] ?_;intro F;simp only[ak];intro U ab aa af ad ar bE m2;simp(disch:=omega) [t1,t2,t3,t5,hI,cP,hn,gX,bz,b4,f0,f1,f2,f3,f4,f7,f15,f63] at U ab aa af ad ar bE m2;clear f0 f1 f2 f3 f4 f7 f15 f63;have f0:=U;have f1:=ab;have f2:=aa;have f3:=af;have f4:=ad;have f7:=ar;have f15:=bE;have f63:=m2;clear U ab aa af ad ar bE m2)))
      | (refine aJ _ (by simp(disch:=omega) [t1,t2,t3,t5,hI,cP,hn,gX,bz,b4,f0,f1,f2,f3,f4,f7,f15,f63];rfl) (fun I=>?_) (fun I=>?_)<;>first|(exfalso;simp(disch:=omega) [t1,t2,t3,t5,hI,cP,hn,gX,bz,b4] at I;done)|(exfalso;simp at I;omega)|(simp at I))
      | ((first|refine aH ?_|refine aN ?_);simp(disch:=omega) [t1,t2,t3,t5,hI,cP,hn,gX,bz,b4,f0,f1,f2,f3,f4,f7,f15,f63]))
   · have n9:=y9.resolve_left dI
     have n_:(e == f.bd)=false:=by simpa using dI
     refine al [0,1,2,3,4,7,15,63] fun F=>?_
     simp only[ak]
     intro f0 f1 f2 f3 f4 f7 f15 f63
     simp[a8] at f0 f1 f2 f3 f4 f7 f15 f63
     repeat' (first
      | refine ax ?_
      | ((fail_if_success (refine aQ ?_));(fail_if_success (refine aR ?_));refine aL ?_)
      | ((first|(refine az aM ?_;simp(disch:=omega) [t1,t2,t3,t4,t5,t6,hI,cP,ga,hn,mF,gX,n9,dI,n_,bz,b4,f0,f1,f2,f3,f4,f7,f15,f63];(try(refine⟨by first|decide|rfl,?_⟩)))|(refine aK ?_;simp(disch:=omega) [t1,t2,t3,t4,t5,t6,hI,cP,ga,hn,mF,gX,n9,dI,n_,bz,b4,f0,f1,f2,f3,f4,f7,f15,f63]));(try(refine al [0,1,2,3,4,7,15,63] ?_;intro F;simp only[ak];intro U ab aa af ad ar bE m2;simp(disch:=omega) [t1,t2,t3,t4,t5,t6,hI,cP,ga,hn,mF,gX,n9,dI,n_,bz,b4,f0,f1,f2,f3,f4,f7,f15,f63] at U ab aa af ad ar bE m2;clear f0 f1 f2 f3 f4 f7 f15 f63;have f0:=U;have f1:=ab;have f2:=aa;have f3:=af;have f4:=ad;have f7:=ar;have f15:=bE;have f63:=m2;clear U ab aa af ad ar bE m2)))
      | (refine aJ _ (by simp(disch:=omega) [t1,t2,t3,t4,t5,t6,hI,cP,ga,hn,mF,gX,n9,dI,n_,bz,b4,f0,f1,f2,f3,f4,f7,f15,f63];rfl) (fun I=>?_) (fun I=>?_)<;>first|(exfalso;simp(disch:=omega) [t1,t2,t3,t4,t5,t6,hI,cP,ga,hn,mF,gX,n9,dI,n_,bz,b4] at I;done)|(exfalso;simp at I;omega)|(simp at I))
      | ((first|refine aH ?_|refine aN ?_);simp(disch:=omega) [t1,t2,t3,t4,t5,t6,hI,cP,ga,hn,mF,gX,n9,dI,n_,bz,b4,f0,f1,f2,f3,f4,f7,f15,f63]))
noncomputable def tz:FuncId->Option (List J->Option J):=da [(15,zY),(50,rW),(51,nD),(46,ng),(52,nO),(53,rL)]
theorem XY:∀f T,tz f=some T->bl Tryz.prog G f T:=dc (by simp only[List.forall_mem_cons];exact ⟨XX,Dl,wZ,vz,w9,CX,fun _ h=>absurd h (by simp)⟩)
theorem XZ:tz 15=some zY:=rfl
theorem X0:tz 50=some rW:=rfl
theorem X1:tz 51=some nD:=rfl
theorem X2:tz 46=some ng:=rfl
theorem X3:tz 52=some nO:=rfl
theorem X4:tz 53=some rL:=rfl
attribute [local simp] XZ X0 X1 X2 X3 X4
noncomputable def zZ:List J->Option J:=cl (fun z:cE × eZ=>fS z.1/\kt z.1 z.2) (fun z=>[d_ z.1,gN z.2]) (fun z=>if z.2.k=2 then .cb [vn,.bool false] else .cb [qr (dR z.1 z.2),.bool true])
theorem Lc (z:cE × eZ) (h:fS z.1/\kt z.1 z.2) {args:List J} (he:args.map J.loose= [d_ z.1,gN z.2]):zZ args=some (if z.2.k=2 then .cb [vn,.bool false] else .cb [qr (dR z.1 z.2),.bool true]):=cI (fun z w h=>by first|(simp only[ly,fR,fQ,List.cons.injEq,J.int.injEq,J.bool.injEq,J.sl.injEq,bT,bU,bY,bZ,bX,bG,bL,bV,bI,true_and,and_true] at h;simp[h];done)|(simp only[J.agg.injEq,ly,fR,fQ,List.cons.injEq,J.int.injEq,J.bool.injEq,J.sl.injEq,bT,bU,bY,bZ,bX,bG,bL,bV,bI,true_and,and_true] at h;simp[h])) z h he
theorem X5:bl Tryz.prog G 18 zZ:=by
 refine cJ mixed XY F6 fun z aV=>?_
 obtain⟨f,x⟩:=z
 obtain⟨aT,av⟩:=aV
 simp only at aT av|-
 have t1:=XW (f,x) ⟨aT,av⟩ (args:=[d_ f,gN x]) (by simp)
 obtain⟨b1,-,-,kQ,mF,gX⟩:=K' aT av
 have z0:=WE (f:=f) (x:=x)
 have qC:=WG (f:=f) (x:=x)
 obtain⟨k,n,m,e⟩:=x
 simp only at t1 b1 kQ mF gX z0 qC|-
 unfold i18
 by_cases aI:k=2
 · subst aI
   rw[if_pos rfl]
   refine al [0,1,2,3,4,5,6,7,8,18,28] fun F=>?_
   simp only[ak]
   intro f0 f1 f2 f3 f4 f5 f6 f7 f8 f18 f28
   simp[a8] at f0 f1 f2 f3 f4 f5 f6 f7 f8 f18 f28
   repeat' (first
    | refine ax ?_
    | ((fail_if_success (refine aQ ?_));(fail_if_success (refine aR ?_));refine aL ?_)
    | ((first|(refine az aM ?_;simp(disch:=omega) [t1,f0,f1,f2,f3,f4,f5,f6,f7,f8,f18,f28];(try(refine⟨by first|decide|rfl,?_⟩)))|(refine aK ?_;simp(disch:=omega) [t1,f0,f1,f2,f3,f4,f5,f6,f7,f8,f18,f28]));(try(refine al [0,1,2,3,4,5,6,7,8,18,28] ?_;intro F;simp only[ak];intro U ab aa af ad ah ag ar ao bP ks;simp(disch:=omega) [t1,f0,f1,f2,f3,f4,f5,f6,f7,f8,f18,f28] at U ab aa af ad ah ag ar ao bP ks;clear f0 f1 f2 f3 f4 f5 f6 f7 f8 f18 f28;have f0:=U;have f1:=ab;have f2:=aa;have f3:=af;have f4:=ad;have f5:=ah;have f6:=ag;have f7:=ar;have f8:=ao;have f18:=bP;have f28:=ks;clear U ab aa af ad ah ag ar ao bP ks)))
    | (refine aJ _ (by simp(disch:=omega) [t1,f0,f1,f2,f3,f4,f5,f6,f7,f8,f18,f28];rfl) (fun I=>?_) (fun I=>?_)<;>first|(exfalso;simp(disch:=omega) [t1] at I;done)|(exfalso;simp at I;omega)|(simp at I))
    | ((first|refine aH ?_|refine aN ?_);simp(disch:=omega) [t1,f0,f1,f2,f3,f4,f5,f6,f7,f8,f18,f28]))
 · rw[if_neg aI]
   have lg:(k == 2)=false:=by simpa using aI
   obtain⟨j,bb,aC⟩:∃j:Nat,j<=300/\(e=Z j\/e= -(Z j)/\0<j):=by
    by_cases aC:0<=e
    · exact ⟨e.toNat,by omega,.inl (by simp only[Z];omega)⟩
    · exact ⟨(-e).toNat,by omega,.inr (by simp only[Z];omega)⟩
   have a6:=mn (b:=f.β) (n:=j) (by have:=aT.b;omega)
   have t2:=tv (n,m) (by simp only;omega) (args:=[.bool n,aw m]) (by simp)
   have t3:=rV (f,j) ⟨aT.b,by simp only;omega⟩ (args:=[d_ f,bp j]) (by simp)
   have t4:=tv (false,f.β^j) (by simp only;omega) (args:=[.bool false,aw (f.β^j)]) (by simp)
   have t5:=wY 1 (by decide) (args:=[e3 1]) (by simp)
   have Dr:∀x:Nat,db false x=(x:Int):=fun x=>rfl
   simp only[Dr] at t2 t3 t4
   have aP:bS (db n m)<=3:=by rw[yX];exact b1
   rcases aC with rfl|⟨rfl,DU⟩
   · have aY:=z0 aI (by simp only[Z];omega)
     rw[fw] at aY
     have t6:=s9 (db n m,((f.β^j:Nat):Int)) ⟨by simp only;omega,by simp only[kS];omega,by simp only;omega⟩ (args:=[a7 (db n m),a7 ((f.β^j:Nat):Int)]) (by simp)
     have hm:=pc (db n m) ((f.β^j:Nat):Int)
     rw[kS (f.β^j)] at hm
     have t7:=tv (false,1) (by rw[lX];decide) (args:=[.bool false,aw 1]) (by simp)
     have t8:=Kn (db n m*((f.β^j:Nat):Int),1) ⟨by simp only;omega,by have:=Xp (z:=1) (by decide);simp only;omega⟩ (args:=[a7 (db n m*((f.β^j:Nat):Int)),a7 1]) (by simp)
     have s1:db false 1=1:=rfl
     simp only[aY,if_neg (show ¬((1:Int)=0) by decide)] at t6 t8
     simp only[s1] at t7
     clear aY a6 hm z0 qC aP b1
     generalize dR f ⟨k,n,m,Z j⟩=r at*
     generalize db n m*((f.β^j:Nat):Int)=w at*
     generalize db n m=s at*
     generalize ((f.β^j:Nat):Int)=u at*
     generalize f.β^j=v at*
     generalize (1:Int)=o at t7 t8
     generalize ai 1=ck at*
     refine al [0,1,2,3,4,5,6,7,8,18,28] fun F=>?_
     simp only[ak]
     intro f0 f1 f2 f3 f4 f5 f6 f7 f8 f18 f28
     simp[a8] at f0 f1 f2 f3 f4 f5 f6 f7 f8 f18 f28
     repeat' (first
      | refine ax ?_
      | ((fail_if_success (refine aQ ?_));(fail_if_success (refine aR ?_));refine aL ?_)
      | ((first|(refine az aM ?_;simp(disch:=omega) [t1,t2,t3,t4,t5,t6,t7,t8,lg,f0,f1,f2,f3,f4,f5,f6,f7,f8,f18,f28];(try(refine⟨by first|decide|rfl,?_⟩)))|(refine aK ?_;simp(disch:=omega) [t1,t2,t3,t4,t5,t6,t7,t8,lg,f0,f1,f2,f3,f4,f5,f6,f7,f8,f18,f28]));(try(refine al [0,1,2,3,4,5,6,7,8,18,28] ?_;intro F;simp only[ak];intro U ab aa af ad ah ag ar ao bP ks;simp(disch:=omega) [t1,t2,t3,t4,t5,t6,t7,t8,lg,f0,f1,f2,f3,f4,f5,f6,f7,f8,f18,f28] at U ab aa af ad ah ag ar ao bP ks;clear f0 f1 f2 f3 f4 f5 f6 f7 f8 f18 f28;have f0:=U;have f1:=ab;have f2:=aa;have f3:=af;have f4:=ad;have f5:=ah;have f6:=ag;have f7:=ar;have f8:=ao;have f18:=bP;have f28:=ks;clear U ab aa af ad ah ag ar ao bP ks)))
      | (refine aJ _ (by simp(disch:=omega) [t1,t2,t3,t4,t5,t6,t7,t8,lg,f0,f1,f2,f3,f4,f5,f6,f7,f8,f18,f28];rfl) (fun I=>?_) (fun I=>?_)<;>first|(exfalso;simp(disch:=omega) [t1,t2,t3,t4,t5,t6,t7,t8,lg] at I;done)|(exfalso;simp at I;omega)|(simp at I))
      | ((first|refine aH ?_|refine aN ?_);simp(disch:=omega) [t1,t2,t3,t4,t5,t6,t7,t8,lg,f0,f1,f2,f3,f4,f5,f6,f7,f8,f18,f28]))
   · have aY:=qC aI (by simp only[Z];omega)
     rw[Int.neg_neg,fw] at aY
     have bc:0<f.β^j:=K7 aT j
     have t8:=Kn (db n m,((f.β^j:Nat):Int)) ⟨by simp only;omega,by simp only[kS];omega⟩ (args:=[a7 (db n m),a7 ((f.β^j:Nat):Int)]) (by simp)
     simp only[aY,if_neg (show ¬(((f.β^j:Nat):Int)=0) by omega)] at t8
     have bm:(Z 0<= -(Z j))=False:=eq_false (by simp only[Z];omega)
     have wn:=K6 (k:=j) (by omega)
     clear aY a6 z0 qC aP b1 bc
     generalize dR f ⟨k,n,m,-(Z j)⟩=r at*
     generalize db n m=s at*
     generalize ((f.β^j:Nat):Int)=u at*
     generalize f.β^j=v at*
     refine al [0,1,2,3,4,5,6,7,8,18,28] fun F=>?_
     simp only[ak]
     intro f0 f1 f2 f3 f4 f5 f6 f7 f8 f18 f28
     simp[a8] at f0 f1 f2 f3 f4 f5 f6 f7 f8 f18 f28
     repeat' (first
      | refine ax ?_
      | ((fail_if_success (refine aQ ?_));(fail_if_success (refine aR ?_));refine aL ?_)
      | ((first|(refine az aM ?_;simp(disch:=omega) [t1,t2,t3,t4,t5,t8,lg,bm,wn,f0,f1,f2,f3,f4,f5,f6,f7,f8,f18,f28];(try(refine⟨by first|decide|rfl,?_⟩)))|(refine aK ?_;simp(disch:=omega) [t1,t2,t3,t4,t5,t8,lg,bm,wn,f0,f1,f2,f3,f4,f5,f6,f7,f8,f18,f28]));(try(refine al [0,1,2,3,4,5,6,7,8,18,28] ?_;intro F;simp only[ak];intro U ab aa af ad ah ag ar ao bP ks;simp(disch:=omega) [t1,t2,t3,t4,t5,t8,lg,bm,wn,f0,f1,f2,f3,f4,f5,f6,f7,f8,f18,f28] at U ab aa af ad ah ag ar ao bP ks;clear f0 f1 f2 f3 f4 f5 f6 f7 f8 f18 f28;have f0:=U;have f1:=ab;have f2:=aa;have f3:=af;have f4:=ad;have f5:=ah;have f6:=ag;have f7:=ar;have f8:=ao;have f18:=bP;have f28:=ks;clear U ab aa af ad ah ag ar ao bP ks)))
      | (refine aJ _ (by simp(disch:=omega) [t1,t2,t3,t4,t5,t8,lg,bm,wn,f0,f1,f2,f3,f4,f5,f6,f7,f8,f18,f28];rfl) (fun I=>?_) (fun I=>?_)<;>first|(exfalso;simp(disch:=omega) [t1,t2,t3,t4,t5,t8,lg,bm,wn] at I;done)|(exfalso;simp at I;omega)|(simp at I))
      | ((first|refine aH ?_|refine aN ?_);simp(disch:=omega) [t1,t2,t3,t4,t5,t8,lg,bm,wn,f0,f1,f2,f3,f4,f5,f6,f7,f8,f18,f28]))
end
end
section
set_option maxHeartbeats 8000000
open Go Go.Eng Go.RowKit
theorem Ld {f:cE} (aT:fS f) {x:eZ} (av:kt f x) (aI:x.k≠2):eV (dR f x)<=45:=by
 obtain⟨b1,-,-,-,mF,gX⟩:=K' aT av
 rw[Dj aI]
 have ae:=WA ((db x.neg x.m:Int):Rat) (cj f.β x.e)
 have h2:=KS (db x.neg x.m)
 rw[yX] at h2
 have aO:=WC (b:=f.β) (by have:=aT.b;omega) (by have:=aT.b;omega) x.e
 omega
theorem X6 {a b:Nat} (h:a<b):cT a b= -1:=if_pos h
theorem X7 {a b:Nat} (h:b<=a):(cT a b<Z 0)=False:=by
 refine eq_false ?_
 unfold cT
 rw[if_neg (by omega)]
 split<;>decide
end
section
set_option maxHeartbeats 8000000
open Go Go.Eng Go.RowKit
attribute [local simp] bH.m bH.o bH.n bH.g hy fh dG dr dJ evalOp.eq_1 evalOp.eq_2 evalOp.eq_3 evalOp.eq_4 evalOp.eq_5 evalOp.eq_6 evalOp.eq_7 evalOp.eq_8 evalOp.eq_9 evalOp.eq_10 evalOp.eq_11 evalOp.eq_12 evalOp.eq_13 evalOp.eq_14 evalOp.eq_15 evalOp.eq_16 evalOp.eq_17 evalOp.eq_18 evalOp.eq_19 evalOp.eq_20 evalOp.eq_21 evalOp.eq_22 evalOp.eq_23 evalOp.eq_24 evalOp.eq_25 evalOp.eq_27 evalOp.eq_28 evalOp.eq_29 kl bn.cu dq aG aF.new a8 J.cells J.dp J.e7 J.ft il iq im ir iv iu jK jL jM gY gZ cut partOf bound elems jO jP jQ jR jS jT jU jV jW jX jY jZ h1 j0 j1 j2 j3 j4 j5 j6 j7 j8 j9 j_ j' ka kb kc kd ke kf kg kh ki kj kk ff e8 e1 gi iw hA aF.close aF.set h3 km kn ko jN hB gD gq gJ gr hX gu gK hY hZ h0 gf gg gh gd ix bI hU iy hV iz iA fY iB fw iC iD iE gT jJ iF iG iH iI iJ iK iL iM iN iO iP iQ iR iS iT iU iV iW iX hf iY iZ i_ i' ja jb jc jd je jf jg jh ji jj jk
attribute [local simp high] jG jH jI jl jm jn jo jq jr js jt ju jv jw jx jy jz jA jB jC jD jE jF
attribute [local simp] aS List.getElem?_cons_zero List.getElem?_cons_succ fa eh gl Nat.mod_eq_of_lt kH kI kJ kK gL kL kM kN
section
attribute [local irreducible] cQ
attribute [local simp] ek eL du
noncomputable def X8:FuncId->Option (List J->Option J):=da []
theorem X9:∀f T,X8 f=some T->bl Tryz.prog G f T:=dc (by simp)
noncomputable def z1:List J->Option J:=cl (fun z:eZ=>True) (fun z=>[gN z]) (fun z=> .int .i64 (fo z))
theorem Le (z:eZ) (h:True) {args:List J} (he:args.map J.loose= [gN z]):z1 args=some (.int .i64 (fo z)):=cI (fun z w h=>by first|(simp only[ly,fR,fQ,List.cons.injEq,J.int.injEq,J.bool.injEq,J.sl.injEq,bT,bU,bY,bZ,bX,bG,bL,bV,bI,true_and,and_true] at h;simp[h];done)|(simp only[J.agg.injEq,ly,fR,fQ,List.cons.injEq,J.int.injEq,J.bool.injEq,J.sl.injEq,bT,bU,bY,bZ,bX,bG,bL,bV,bI,true_and,and_true] at h;simp[h])) z h he
theorem X_:bl Tryz.prog G 66 z1:=by
 refine cJ mixed X9 Gm fun z aV=>?_
 obtain⟨k,n,m,e⟩:=z
 simp only[fo]
 unfold i66
 by_cases h:k=2
 · subst h
   cases n
   · skip
     refine al [0,1,2,3,7] fun F=>?_
     simp only[ak]
     intro f0 f1 f2 f3 f7
     simp[a8] at f0 f1 f2 f3 f7
     repeat' (first
      | refine ax ?_
      | ((fail_if_success (refine aQ ?_));(fail_if_success (refine aR ?_));refine aL ?_)
      | ((first|(refine az aM ?_;simp(disch:=omega) [f0,f1,f2,f3,f7];(try(refine⟨by first|decide|rfl,?_⟩)))|(refine aK ?_;simp(disch:=omega) [f0,f1,f2,f3,f7]));(try(refine al [0,1,2,3,7] ?_;intro F;simp only[ak];intro U ab aa af ar;simp(disch:=omega) [f0,f1,f2,f3,f7] at U ab aa af ar;clear f0 f1 f2 f3 f7;have f0:=U;have f1:=ab;have f2:=aa;have f3:=af;have f7:=ar;clear U ab aa af ar)))
      | (refine aJ _ (by simp(disch:=omega) [f0,f1,f2,f3,f7];rfl) (fun I=>?_) (fun I=>?_)<;>first|(exfalso;simp(disch:=omega) at I;done)|(exfalso;simp at I;omega)|(simp at I))
      | ((first|refine aH ?_|refine aN ?_);simp(disch:=omega) [f0,f1,f2,f3,f7]))
   · skip
     refine al [0,1,2,3,7] fun F=>?_
     simp only[ak]
     intro f0 f1 f2 f3 f7
     simp[a8] at f0 f1 f2 f3 f7
     repeat' (first
      | refine ax ?_
      | ((fail_if_success (refine aQ ?_));(fail_if_success (refine aR ?_));refine aL ?_)
      | ((first|(refine az aM ?_;simp(disch:=omega) [f0,f1,f2,f3,f7];(try(refine⟨by first|decide|rfl,?_⟩)))|(refine aK ?_;simp(disch:=omega) [f0,f1,f2,f3,f7]));(try(refine al [0,1,2,3,7] ?_;intro F;simp only[ak];intro U ab aa af ar;simp(disch:=omega) [f0,f1,f2,f3,f7] at U ab aa af ar;clear f0 f1 f2 f3 f7;have f0:=U;have f1:=ab;have f2:=aa;have f3:=af;have f7:=ar;clear U ab aa af ar)))
      | (refine aJ _ (by simp(disch:=omega) [f0,f1,f2,f3,f7];rfl) (fun I=>?_) (fun I=>?_)<;>first|(exfalso;simp(disch:=omega) at I;done)|(exfalso;simp at I;omega)|(simp at I))
      | ((first|refine aH ?_|refine aN ?_);simp(disch:=omega) [f0,f1,f2,f3,f7]))
 · rw[if_neg h]
   have lg:(k != 2)=true:=by simpa using h
   refine al [0,1,2,3,7] fun F=>?_
   simp only[ak]
   intro f0 f1 f2 f3 f7
   simp[a8] at f0 f1 f2 f3 f7
   repeat' (first
    | refine ax ?_
    | ((fail_if_success (refine aQ ?_));(fail_if_success (refine aR ?_));refine aL ?_)
    | ((first|(refine az aM ?_;simp(disch:=omega) [lg,f0,f1,f2,f3,f7];(try(refine⟨by first|decide|rfl,?_⟩)))|(refine aK ?_;simp(disch:=omega) [lg,f0,f1,f2,f3,f7]));(try(refine al [0,1,2,3,7] ?_;intro F;simp only[ak];intro U ab aa af ar;simp(disch:=omega) [lg,f0,f1,f2,f3,f7] at U ab aa af ar;clear f0 f1 f2 f3 f7;have f0:=U;have f1:=ab;have f2:=aa;have f3:=af;have f7:=ar;clear U ab aa af ar)))
    | (refine aJ _ (by simp(disch:=omega) [lg,f0,f1,f2,f3,f7];rfl) (fun I=>?_) (fun I=>?_)<;>first|(exfalso;simp(disch:=omega) [lg] at I;done)|(exfalso;simp at I;omega)|(simp at I))
    | ((first|refine aH ?_|refine aN ?_);simp(disch:=omega) [lg,f0,f1,f2,f3,f7]))
theorem Lf (x:eZ):(x.k=2/\fo x=if x.neg=true then -1 else 1)\/(x.k≠2/\fo x=0):=by
 unfold fo
 by_cases h:x.k=2
 · exact .inl ⟨h,if_pos h⟩
 · exact .inr ⟨h,if_neg h⟩
noncomputable def z2:FuncId->Option (List J->Option J):=da [(66,z1),(18,zZ),(67,zz)]
theorem X':∀f T,z2 f=some T->bl Tryz.prog G f T:=dc (by simp only[List.forall_mem_cons];exact ⟨X_,X5,U_,fun _ h=>absurd h (by simp)⟩)
theorem Ya:z2 66=some z1:=rfl
theorem Yb:z2 18=some zZ:=rfl
theorem Yc:z2 67=some zz:=rfl
attribute [local simp] Ya Yb Yc
noncomputable def xz:List J->Option J:=cl (fun z:cE × eZ × eZ=>fS z.1/\kt z.1 z.2.1/\kt z.1 z.2.2) (fun z=>[d_ z.1,gN z.2.1,gN z.2.2]) (fun z=> .int .i64 (fb (dR z.1 z.2.1) (dR z.1 z.2.2)))
theorem Yd (z:cE × eZ × eZ) (h:fS z.1/\kt z.1 z.2.1/\kt z.1 z.2.2) {args:List J} (he:args.map J.loose= [d_ z.1,gN z.2.1,gN z.2.2]):xz args=some (.int .i64 (fb (dR z.1 z.2.1) (dR z.1 z.2.2))):=cI (fun z w h=>by first|(simp only[ly,fR,fQ,List.cons.injEq,J.int.injEq,J.bool.injEq,J.sl.injEq,bT,bU,bY,bZ,bX,bG,bL,bV,bI,true_and,and_true] at h;simp[h];done)|(simp only[J.agg.injEq,ly,fR,fQ,List.cons.injEq,J.int.injEq,J.bool.injEq,J.sl.injEq,bT,bU,bY,bZ,bX,bG,bL,bV,bI,true_and,and_true] at h;simp[h])) z h he
theorem Ye:bl Tryz.prog G 26 xz:=by
 refine cJ mixed X' F7 fun z aV=>?_
 obtain⟨f,x,y⟩:=z
 obtain⟨aT,av,bj⟩:=aV
 simp only at aT av bj|-
 have s1:=Le x trivial (args:=[gN x]) (by simp)
 have s2:=Le y trivial (args:=[gN y]) (by simp)
 have aP:=Xx aT.ok av bj
 have bz:((-1:Int)<Z 1)=True:=eq_true (by decide)
 by_cases h2:x.k=2\/y.k=2
 · rw[aP h2]
   clear aP
   have cp:(fo x != Z 0)=true\/(fo x != Z 0)=false/\(fo y != Z 0)=true:=by
    rcases Lf x with⟨a,b⟩|⟨a,b⟩
    · left;rw[b];split<;>decide
    · right
      rcases Lf y with⟨ep,gF⟩|⟨ep,gF⟩
      · rw[b,gF];exact ⟨rfl,by split<;>decide⟩
      · exact absurd h2 (by simp[a,ep])
   have bf: -1<=fo x/\fo x<=1/\ -1<=fo y/\fo y<=1:=by
    unfold fo
    refine⟨?_,?_,?_,?_⟩<;>(repeat' split)<;>decide
   have bK:IntKind.i64.wrap (fo x - fo y)=fo x - fo y:=wrap_i64 (by omega) (by omega)
   have oQ:(if (-1:Int)<(if Z 1<fo x - fo y then Z 1 else fo x - fo y) then (if Z 1<fo x - fo y then Z 1 else fo x - fo y) else (-1))=max (-1) (min (fo x - fo y) 1):=by
    simp only[Z];repeat' split
    all_goals omega
   generalize max (-1) (min (fo x - fo y) 1)=r at*
   generalize fo x=a at*
   generalize fo y=b at*
   unfold i26
   rcases cp with h|⟨h,ay⟩
   · skip
     refine al [0,1,2,3,4,5,6,7,8,9,10,12,25] fun F=>?_
     simp only[ak]
     intro f0 f1 f2 f3 f4 f5 f6 f7 f8 f9 f10 f12 f25
     simp[a8] at f0 f1 f2 f3 f4 f5 f6 f7 f8 f9 f10 f12 f25
     repeat' (first
      | refine ax ?_
      | ((fail_if_success (refine aQ ?_));(fail_if_success (refine aR ?_));refine aL ?_)
      | ((first|(refine az aM ?_;simp(disch:=omega) [s1,s2,h,bK,oQ,fg,f0,f1,f2,f3,f4,f5,f6,f7,f8,f9,f10,f12,f25];(try(refine⟨by first|decide|rfl,?_⟩)))|(refine aK ?_;simp(disch:=omega) [s1,s2,h,bK,oQ,fg,f0,f1,f2,f3,f4,f5,f6,f7,f8,f9,f10,f12,f25]));(try(refine al [0,1,2,3,4,5,6,7,8,9,10,12,25] ?_;intro F;simp only[ak];intro U ab aa af ad ah ag ar ao aA aB aX ch;simp(disch:=omega) [s1,s2,h,bK,oQ,fg,f0,f1,f2,f3,f4,f5,f6,f7,f8,f9,f10,f12,f25] at U ab aa af ad ah ag ar ao aA aB aX ch;clear f0 f1 f2 f3 f4 f5 f6 f7 f8 f9 f10 f12 f25;have f0:=U;have f1:=ab;have f2:=aa;have f3:=af;have f4:=ad;have f5:=ah;have f6:=ag;have f7:=ar;have f8:=ao;have f9:=aA;have f10:=aB;have f12:=aX;have f25:=ch;clear U ab aa af ad ah ag ar ao aA aB aX ch)))
      | (refine aJ _ (by simp(disch:=omega) [s1,s2,h,bK,oQ,fg,f0,f1,f2,f3,f4,f5,f6,f7,f8,f9,f10,f12,f25];rfl) (fun I=>?_) (fun I=>?_)<;>first|(exfalso;simp(disch:=omega) [s1,s2,h,bK,oQ,fg] at I;done)|(exfalso;simp at I;omega)|(simp at I))
      | ((first|refine aH ?_|refine aN ?_);simp(disch:=omega) [s1,s2,h,bK,oQ,fg,f0,f1,f2,f3,f4,f5,f6,f7,f8,f9,f10,f12,f25]))
   · skip
     refine al [0,1,2,3,4,5,6,7,8,9,10,12,25] fun F=>?_
     simp only[ak]
     intro f0 f1 f2 f3 f4 f5 f6 f7 f8 f9 f10 f12 f25
     simp[a8] at f0 f1 f2 f3 f4 f5 f6 f7 f8 f9 f10 f12 f25
     repeat' (first
      | refine ax ?_
      | ((fail_if_success (refine aQ ?_));(fail_if_success (refine aR ?_));refine aL ?_)
      | ((first|(refine az aM ?_;simp(disch:=omega) [s1,s2,h,ay,bK,oQ,fg,f0,f1,f2,f3,f4,f5,f6,f7,f8,f9,f10,f12,f25];(try(refine⟨by first|decide|rfl,?_⟩)))|(refine aK ?_;simp(disch:=omega) [s1,s2,h,ay,bK,oQ,fg,f0,f1,f2,f3,f4,f5,f6,f7,f8,f9,f10,f12,f25]));(try(refine al [0,1,2,3,4,5,6,7,8,9,10,12,25] ?_;intro F;simp only[ak];intro U ab aa af ad ah ag ar ao aA aB aX ch;simp(disch:=omega) [s1,s2,h,ay,bK,oQ,fg,f0,f1,f2,f3,f4,f5,f6,f7,f8,f9,f10,f12,f25] at U ab aa af ad ah ag ar ao aA aB aX ch;clear f0 f1 f2 f3 f4 f5 f6 f7 f8 f9 f10 f12 f25;have f0:=U;have f1:=ab;have f2:=aa;have f3:=af;have f4:=ad;have f5:=ah;have f6:=ag;have f7:=ar;have f8:=ao;have f9:=aA;have f10:=aB;have f12:=aX;have f25:=ch;clear U ab aa af ad ah ag ar ao aA aB aX ch)))
      | (refine aJ _ (by simp(disch:=omega) [s1,s2,h,ay,bK,oQ,fg,f0,f1,f2,f3,f4,f5,f6,f7,f8,f9,f10,f12,f25];rfl) (fun I=>?_) (fun I=>?_)<;>first|(exfalso;simp(disch:=omega) [s1,s2,h,ay,bK,oQ,fg] at I;done)|(exfalso;simp at I;omega)|(simp at I))
      | ((first|refine aH ?_|refine aN ?_);simp(disch:=omega) [s1,s2,h,ay,bK,oQ,fg,f0,f1,f2,f3,f4,f5,f6,f7,f8,f9,f10,f12,f25]))
 · have pV:x.k≠2:=fun h=>h2 (.inl h)
   have lM:y.k≠2:=fun h=>h2 (.inr h)
   have aj:fo x=0:=if_neg pV
   have aq:fo y=0:=if_neg lM
   rw[aj] at s1
   rw[aq] at s2
   have v1:=Lc (f,x) ⟨aT,av⟩ (args:=[d_ f,gN x]) (by simp)
   have v2:=Lc (f,y) ⟨aT,bj⟩ (args:=[d_ f,gN y]) (by simp)
   simp only[if_neg pV] at v1
   simp only[if_neg lM] at v2
   have ck:=Ld aT av pV
   have dD:=Ld aT bj lM
   have t1:=U9 (dR f x,dR f y) ⟨by simp only;omega,by simp only;omega,by simp only;omega⟩ (args:=[qr (dR f x),qr (dR f y)]) (by simp)
   simp only at t1
   clear aP aj aq ck dD
   generalize fb (dR f x) (dR f y)=c at*
   generalize dR f x=aax at*
   generalize dR f y=CB at*
   unfold i26
   refine al [0,1,2,3,4,5,6,7,8,9,10,12,25] fun F=>?_
   simp only[ak]
   intro f0 f1 f2 f3 f4 f5 f6 f7 f8 f9 f10 f12 f25
   simp[a8] at f0 f1 f2 f3 f4 f5 f6 f7 f8 f9 f10 f12 f25
   repeat' (first
    | refine ax ?_
    | ((fail_if_success (refine aQ ?_));(fail_if_success (refine aR ?_));refine aL ?_)
    | ((first|(refine az aM ?_;simp(disch:=omega) [s1,s2,v1,v2,t1,f0,f1,f2,f3,f4,f5,f6,f7,f8,f9,f10,f12,f25];(try(refine⟨by first|decide|rfl,?_⟩)))|(refine aK ?_;simp(disch:=omega) [s1,s2,v1,v2,t1,f0,f1,f2,f3,f4,f5,f6,f7,f8,f9,f10,f12,f25]));(try(refine al [0,1,2,3,4,5,6,7,8,9,10,12,25] ?_;intro F;simp only[ak];intro U ab aa af ad ah ag ar ao aA aB aX ch;simp(disch:=omega) [s1,s2,v1,v2,t1,f0,f1,f2,f3,f4,f5,f6,f7,f8,f9,f10,f12,f25] at U ab aa af ad ah ag ar ao aA aB aX ch;clear f0 f1 f2 f3 f4 f5 f6 f7 f8 f9 f10 f12 f25;have f0:=U;have f1:=ab;have f2:=aa;have f3:=af;have f4:=ad;have f5:=ah;have f6:=ag;have f7:=ar;have f8:=ao;have f9:=aA;have f10:=aB;have f12:=aX;have f25:=ch;clear U ab aa af ad ah ag ar ao aA aB aX ch)))
    | (refine aJ _ (by simp(disch:=omega) [s1,s2,v1,v2,t1,f0,f1,f2,f3,f4,f5,f6,f7,f8,f9,f10,f12,f25];rfl) (fun I=>?_) (fun I=>?_)<;>first|(exfalso;simp(disch:=omega) [s1,s2,v1,v2,t1] at I;done)|(exfalso;simp at I;omega)|(simp at I))
    | ((first|refine aH ?_|refine aN ?_);simp(disch:=omega) [s1,s2,v1,v2,t1,f0,f1,f2,f3,f4,f5,f6,f7,f8,f9,f10,f12,f25]))
end
section
attribute [local irreducible] cQ
attribute [local simp] ek eL du
end
end
end Go.Proofs.YtcikknajimdjoaaGreatDoor
