/- What the claim needs of the walks, put together by a program (shake.py). -/
import Derived.Test.YtcikknajimdjoaaGreatDoorFpF
set_option maxRecDepth 100000
set_option linter.unusedSimpArgs false
set_option linter.unusedVariables false
set_option linter.unusedSectionVars false
namespace Go.Proofs.YtcikknajimdjoaaGreatDoor
section
set_option maxHeartbeats 8000000
open Go Go.Eng Go.RowKit
def two (an bd:Nat):Nat:=an*4294967296+bd
theorem Cy {an bd:Nat} (h:an<4294967296) (h2:bd<4294967296):∃R,an*4294967296=R/\R|||bd=two an bd/\R<18446744073709551616/\two an bd<18446744073709551616:=
 ⟨_,rfl,I' h2,by omega,by simp only[two];omega⟩
theorem Jz {an bd y:Nat} (h:an<y) (h2:bd<4294967296) (bj:y<4294967296):two an bd/y<4294967296/\two an bd%y<4294967296:=by
 refine⟨?_,Nat.lt_trans (Nat.mod_lt _ (by omega)) bj⟩
 rw[Nat.div_lt_iff_lt_mul (by omega),two]
 have aO:(an+1)*4294967296<=y*4294967296:=Nat.mul_le_mul_right _ h
 rw[Nat.add_mul] at aO
 rw[Nat.mul_comm 4294967296]
 omega
def mD (x2 x1 x0 y1 y0:Nat):Nat:=min (two (two x2 x1) x0/two y1 y0) 4294967295
theorem JA {x2 x1 x0 y1 y0:Nat}:mD x2 x1 x0 y1 y0<=4294967295:=Nat.min_le_right _ _
theorem SZ {q r y1 y0 x2 x1 x0:Nat} (bo:q*y1+r=two x2 x1) (h:q*y0<=two r x0):q*two y1 y0<=two (two x2 x1) x0:=by
 rw[<-bo];simp only[two] at*;grind
theorem S0 {q r y1 y0 x2 x1 x0:Nat} (bo:q*y1+r=two x2 x1) (h:two r x0<q*y0):two (two x2 x1) x0<q*two y1 y0:=by
 rw[<-bo];simp only[two] at*;grind
theorem JB {q r y1 y0 x2 x1 x0:Nat} (bj:y1≠0) (bo:q*y1+r=two x2 x1) (sf:mD x2 x1 x0 y1 y0<=q) (ae:q<4294967296) (h:q*y0<=two r x0):q=mD x2 x1 x0 y1 y0:=by
 have h2:q<=two (two x2 x1) x0/two y1 y0:=(Nat.le_div_iff_mul_le (by simp only[two];omega)).2 (SZ bo h)
 unfold mD at*;omega
theorem S1 {q r y1 y0 x2 x1 x0:Nat} (bj:y1≠0) (bo:q*y1+r=two x2 x1) (h:4294967296<=q\/two r x0<q*y0):mD x2 x1 x0 y1 y0<=q - 1/\1<=q:=by
 rcases h with h|h
 · have:=JA (x2:=x2) (x1:=x1) (x0:=x0) (y1:=y1) (y0:=y0);omega
 · have h2:two (two x2 x1) x0/two y1 y0<q:=(Nat.div_lt_iff_lt_mul (by simp only[two];omega)).2 (S0 bo h)
   unfold mD
   generalize two (two x2 x1) x0/two y1 y0=d at*
   omega
theorem S2 {q r y1 y0 x2 x1 x0:Nat} (bj:y1≠0) (av:x2<=y1) (ze:x1<4294967296) (gR:y0<4294967296) (bo:q*y1+r=two x2 x1) (sf:mD x2 x1 x0 y1 y0<=q) (bf:4294967296<=r):q=mD x2 x1 x0 y1 y0:=by
 have ae:q*y1<4294967296*y1:=by
  have:x2*4294967296<=y1*4294967296:=Nat.mul_le_mul_right _ av
  simp only[two] at bo
  rw[Nat.mul_comm 4294967296]
  omega
 have h2:q<4294967296:=Nat.lt_of_mul_lt_mul_right ae
 refine JB bj bo sf h2 ?_
 have aO:q*y0<=4294967295*4294967295:=Nat.mul_le_mul (by omega) (by omega)
 simp only[two]
 omega
theorem S3 {y1 x2 x1 x0 y0:Nat} (bj:y1≠0) (e4:x0<4294967296):mD x2 x1 x0 y1 y0<=two x2 x1/y1:=by
 have bw:=Nat.div_add_mod (two x2 x1) y1
 have hm:=Nat.mod_lt (two x2 x1) (Nat.pos_of_ne_zero bj)
 have:two (two x2 x1) x0/two y1 y0<two x2 x1/y1+1:=by
  generalize two x2 x1=t at*
  rw[Nat.div_lt_iff_lt_mul (by simp only[two];omega)]
  generalize t/y1=q at*
  generalize t%y1=r at*
  subst bw
  simp only[two]
  have e:(q+1)*(y1*4294967296+y0)=q*y1*4294967296+y1*4294967296+(q+1)*y0:=by grind
  have aq:(r+1)*4294967296<=y1*4294967296:=Nat.mul_le_mul_right _ hm
  rw[e,Nat.mul_comm y1 q]
  rw[Nat.add_mul] at aq
  rw[Nat.add_mul]
  omega
 unfold mD;omega
end
section
set_option maxHeartbeats 8000000
open Go Go.Eng Go.RowKit
theorem S4 {m o o' P B y r x a1 z:Nat} (hm:o'+P*y=o+P*(z/m)) (bj:y=0) (h:m*o+P*B*r=P*B*a1) (aV:z=r*B+x):m*o'+P*(z%m)=P*(x+B*a1):=by
 subst bj
 have e:P*(m*(z/m)+z%m)=P*z:=by rw[Nat.div_add_mod]
 rw[aV] at e|-
 rw[aV] at hm
 generalize (r*B+x)/m=q at*
 generalize (r*B+x)%m=t at*
 grind
end
section
set_option maxHeartbeats 8000000
open Go Go.Eng Go.RowKit
attribute [local simp] bH.m bH.o bH.n bH.g hy fh dG dr dJ evalOp.eq_1 evalOp.eq_2 evalOp.eq_3 evalOp.eq_4 evalOp.eq_5 evalOp.eq_6 evalOp.eq_7 evalOp.eq_8 evalOp.eq_9 evalOp.eq_10 evalOp.eq_11 evalOp.eq_12 evalOp.eq_13 evalOp.eq_14 evalOp.eq_15 evalOp.eq_16 evalOp.eq_17 evalOp.eq_18 evalOp.eq_19 evalOp.eq_20 evalOp.eq_21 evalOp.eq_22 evalOp.eq_23 evalOp.eq_24 evalOp.eq_25 evalOp.eq_27 evalOp.eq_28 evalOp.eq_29 kl bn.cu dq aG aF.new a8 J.cells J.dp J.e7 J.ft il iq im ir iv iu jK jL jM gY gZ cut partOf bound elems jO jP jQ jR jS jT jU jV jW jX jY jZ h1 j0 j1 j2 j3 j4 j5 j6 j7 j8 j9 j_ j' ka kb kc kd ke kf kg kh ki kj kk ff e8 e1 gi iw hA aF.close aF.set h3 km kn ko jN hB gD gq gJ gr hX gu gK hY hZ h0 gf gg gh gd ix bI hU iy hV iz iA fY iB fw iC iD iE gT jJ iF iG iH iI iJ iK iL iM iN iO iP iQ iR iS iT iU iV iW iX hf iY iZ i_ i' ja jb jc jd je jf jg jh ji jj jk
attribute [local simp high] jG jH jI jl jm jn jo jq jr js jt ju jv jw jx jy jz jA jB jC jD jE jF
attribute [local simp] aS List.getElem?_cons_zero List.getElem?_cons_succ fa eh gl Nat.mod_eq_of_lt kH kI kJ kK gL kL kM kN
section
attribute [local irreducible] cQ
attribute [local simp] ek eL du
noncomputable def JC:FuncId->Option (List J->Option J):=da [(138,ux)]
theorem Cz:∀f T,JC f=some T->bl Tryz.prog G f T:=dc (by simp only[List.forall_mem_cons];exact ⟨Ic,fun _ h=>absurd h (by simp)⟩)
theorem S5:JC 138=some ux:=rfl
attribute [local simp] S5
noncomputable def zf:List J->Option J:=cl (fun z:Nat × Nat × Nat=>z.1<z.2.2/\z.2.1<4294967296/\z.2.2<4294967296) (fun z=>[b2 z.1,b2 z.2.1,b2 z.2.2]) (fun z=> .cb [b2 (two z.1 z.2.1/z.2.2),b2 (two z.1 z.2.1%z.2.2)])
theorem S6 (z:Nat × Nat × Nat) (h:z.1<z.2.2/\z.2.1<4294967296/\z.2.2<4294967296) {args:List J} (he:args.map J.loose= [b2 z.1,b2 z.2.1,b2 z.2.2]):zf args=some (.cb [b2 (two z.1 z.2.1/z.2.2),b2 (two z.1 z.2.1%z.2.2)]):=cI (fun z w h=>by first|(simp only[List.cons.injEq,J.int.injEq,J.bool.injEq,J.sl.injEq,bT,bU,bY,bZ,bX,bG,bL,bV,bI,true_and,and_true] at h;simp[h];done)|(simp only[J.agg.injEq,List.cons.injEq,J.int.injEq,J.bool.injEq,J.sl.injEq,bT,bU,bY,bZ,bX,bG,bL,bV,bI,true_and,and_true] at h;simp[h])) z h he
theorem S7:bl Tryz.prog G 156 zf:=by
 refine cJ mixed Cz Hu fun z aV=>?_
 obtain⟨an,bd,y⟩:=z
 obtain⟨ae,h2,aO⟩:=aV
 simp only at ae h2 aO|-
 obtain⟨R,eu,eD,b1,cN⟩:=Cy (show an<4294967296 by omega) h2
 obtain⟨d1,d2⟩:=Jz ae h2 aO
 have bj:¬y=0:=by omega
 have lM:0<y:=by omega
 have d3:two an bd/y<18446744073709551616:=by omega
 have d4:y<18446744073709551616:=by omega
 generalize two an bd=w at*
 unfold i156
 refine al [0,1,2,6,7,8,15] fun F=>?_
 simp only[ak]
 intro f0 f1 f2 f6 f7 f8 f15
 simp[a8] at f0 f1 f2 f6 f7 f8 f15
 repeat' (first
  | refine ax ?_
  | ((fail_if_success (refine aQ ?_));(fail_if_success (refine aR ?_));refine aL ?_)
  | ((first|(refine az aM ?_;simp(disch:=omega) [ae,bj,lM,eu,eD,b1,cN,d1,d2,d3,d4,f0,f1,f2,f6,f7,f8,f15];(try(refine⟨by first|decide|rfl,?_⟩)))|(refine aK ?_;simp(disch:=omega) [ae,bj,lM,eu,eD,b1,cN,d1,d2,d3,d4,f0,f1,f2,f6,f7,f8,f15]));(try(refine al [0,1,2,6,7,8,15] ?_;intro F;simp only[ak];intro U ab aa ag ar ao bE;simp(disch:=omega) [ae,bj,lM,eu,eD,b1,cN,d1,d2,d3,d4,f0,f1,f2,f6,f7,f8,f15] at U ab aa ag ar ao bE;clear f0 f1 f2 f6 f7 f8 f15;have f0:=U;have f1:=ab;have f2:=aa;have f6:=ag;have f7:=ar;have f8:=ao;have f15:=bE;clear U ab aa ag ar ao bE)))
  | (refine aJ _ (by simp(disch:=omega) [ae,bj,lM,eu,eD,b1,cN,d1,d2,d3,d4,f0,f1,f2,f6,f7,f8,f15];rfl) (fun I=>?_) (fun I=>?_)<;>first|(exfalso;simp(disch:=omega) [ae,bj,lM,eu,eD,b1,cN,d1,d2,d3,d4] at I;done)|(exfalso;simp at I;omega)|(simp at I))
  | ((first|refine aH ?_|refine aN ?_);simp(disch:=omega) [ae,bj,lM,eu,eD,b1,cN,d1,d2,d3,d4,f0,f1,f2,f6,f7,f8,f15]))
noncomputable def zg:List J->Option J:=cl (fun z:Nat=>z<4294967296) (fun z=>[b2 z]) (fun z=>bp (32 - dv z))
theorem S8 (z:Nat) (h:z<4294967296) {args:List J} (he:args.map J.loose= [b2 z]):zg args=some (bp (32 - dv z)):=cI (fun z w h=>by first|(simp only[List.cons.injEq,J.int.injEq,J.bool.injEq,J.sl.injEq,bT,bU,bY,bZ,bX,bG,bL,bV,bI,true_and,and_true] at h;simp[h];done)|(simp only[J.agg.injEq,List.cons.injEq,J.int.injEq,J.bool.injEq,J.sl.injEq,bT,bU,bY,bZ,bX,bG,bL,bV,bI,true_and,and_true] at h;simp[h])) z h he
theorem S9:bl Tryz.prog G 140 zg:=by
 refine cJ mixed Cz Hg fun n aC=>?_
 have t:=Ib (n:=n) aC
 have au:dv n<=32:=ot.2 aC
 have hw:IntKind.i64.wrap (Z 32 - Z (dv n))=Z (32 - dv n):=eh au (by decide)
 unfold i140
 refine al [0,2] fun F=>?_
 simp only[ak]
 intro f0 f2
 simp[a8] at f0 f2
 repeat' (first
  | refine ax ?_
  | ((fail_if_success (refine aQ ?_));(fail_if_success (refine aR ?_));refine aL ?_)
  | ((first|(refine az aM ?_;simp(disch:=omega) [t,hw,f0,f2];(try(refine⟨by first|decide|rfl,?_⟩)))|(refine aK ?_;simp(disch:=omega) [t,hw,f0,f2]));(try(refine al [0,2] ?_;intro F;simp only[ak];intro U aa;simp(disch:=omega) [t,hw,f0,f2] at U aa;clear f0 f2;have f0:=U;have f2:=aa;clear U aa)))
  | (refine aJ _ (by simp(disch:=omega) [t,hw,f0,f2];rfl) (fun I=>?_) (fun I=>?_)<;>first|(exfalso;simp(disch:=omega) [t,hw] at I;done)|(exfalso;simp at I;omega)|(simp at I))
  | ((first|refine aH ?_|refine aN ?_);simp(disch:=omega) [t,hw,f0,f2]))
noncomputable def uW:List J->Option J:=cl (fun z:Nat × Nat × Nat × Nat × Nat=>z.1<=z.2.2.2.1/\z.2.1<4294967296/\z.2.2.1<4294967296/\z.2.2.2.1<4294967296/\z.2.2.2.2<4294967296/\z.2.2.2.1≠0) (fun z=>[b2 z.1,b2 z.2.1,b2 z.2.2.1,b2 z.2.2.2.1,b2 z.2.2.2.2]) (fun z=>e3 (mD z.1 z.2.1 z.2.2.1 z.2.2.2.1 z.2.2.2.2))
theorem S_ (z:Nat × Nat × Nat × Nat × Nat) (h:z.1<=z.2.2.2.1/\z.2.1<4294967296/\z.2.2.1<4294967296/\z.2.2.2.1<4294967296/\z.2.2.2.2<4294967296/\z.2.2.2.1≠0) {args:List J} (he:args.map J.loose= [b2 z.1,b2 z.2.1,b2 z.2.2.1,b2 z.2.2.2.1,b2 z.2.2.2.2]):uW args=some (e3 (mD z.1 z.2.1 z.2.2.1 z.2.2.2.1 z.2.2.2.2)):=cI (fun z w h=>by first|(simp only[List.cons.injEq,J.int.injEq,J.bool.injEq,J.sl.injEq,bT,bU,bY,bZ,bX,bG,bL,bV,bI,true_and,and_true] at h;simp[h];done)|(simp only[J.agg.injEq,List.cons.injEq,J.int.injEq,J.bool.injEq,J.sl.injEq,bT,bU,bY,bZ,bX,bG,bL,bV,bI,true_and,and_true] at h;simp[h])) z h he
theorem S':bl Tryz.prog G 141 uW:=by
 refine cJ mixed Cz Hh fun z aV=>?_
 obtain⟨x2,x1,x0,y1,y0⟩:=z
 obtain⟨h2,ae,qd,ab,U,bj⟩:=aV
 simp only at h2 ae qd ab U bj|-
 obtain⟨R,eu,eD,b1,cN⟩:=Cy (show x2<4294967296 by omega) ae
 have Ta:=S3 (x2:=x2) (x1:=x1) (y0:=y0) bj qd
 have gs:=fun q r=>JB (q:=q) (r:=r) (x2:=x2) (x1:=x1) (x0:=x0) (y0:=y0) bj
 have Tb:=fun q r=>S1 (q:=q) (r:=r) (x2:=x2) (x1:=x1) (x0:=x0) (y0:=y0) bj
 have mZ:=fun q r=>S2 (q:=q) (r:=r) (x2:=x2) (x1:=x1) (x0:=x0) (y0:=y0) bj h2 ae U
 generalize mD x2 x1 x0 y1 y0=JD at*
 generalize two x2 x1=w at*
 have lM:0<y1:=by omega
 have d4:y1<18446744073709551616:=by omega
 have mB:=Nat.div_le_self w y1
 have ta:=Nat.mod_lt w lM
 have Tc:=Nat.div_add_mod w y1
 have d5:w/y1<18446744073709551616:=by omega
 unfold i141
 refine al [0,1,2,3,4,10,11,12,13,41,49] fun F=>?_
 simp only[ak]
 intro f0 f1 f2 f3 f4 f10 f11 f12 f13 f41 f49
 simp[a8] at f0 f1 f2 f3 f4 f10 f11 f12 f13 f41 f49
 repeat' (first
  | refine ax ?_
  | ((fail_if_success (refine aQ ?_));(fail_if_success (refine aR ?_));refine aL ?_)
  | ((first|(refine az aM ?_;simp(disch:=omega) [bj,lM,eu,eD,b1,cN,d4,d5,f0,f1,f2,f3,f4,f10,f11,f12,f13,f41,f49];(try(refine⟨by first|decide|rfl,?_⟩)))|(refine aK ?_;simp(disch:=omega) [bj,lM,eu,eD,b1,cN,d4,d5,f0,f1,f2,f3,f4,f10,f11,f12,f13,f41,f49]));(try(refine al [0,1,2,3,4,10,11,12,13,41,49] ?_;intro F;simp only[ak];intro U ab aa af ad aB bA aX aZ g7 g8;simp(disch:=omega) [bj,lM,eu,eD,b1,cN,d4,d5,f0,f1,f2,f3,f4,f10,f11,f12,f13,f41,f49] at U ab aa af ad aB bA aX aZ g7 g8;clear f0 f1 f2 f3 f4 f10 f11 f12 f13 f41 f49;have f0:=U;have f1:=ab;have f2:=aa;have f3:=af;have f4:=ad;have f10:=aB;have f11:=bA;have f12:=aX;have f13:=aZ;have f41:=g7;have f49:=g8;clear U ab aa af ad aB bA aX aZ g7 g8)))
  | (refine aJ _ (by simp(disch:=omega) [bj,lM,eu,eD,b1,cN,d4,d5,f0,f1,f2,f3,f4,f10,f11,f12,f13,f41,f49];rfl) (fun I=>?_) (fun I=>?_)<;>first|(exfalso;simp(disch:=omega) [bj,lM,eu,eD,b1,cN,d4,d5] at I;done)|(exfalso;simp at I;omega)|(simp at I))
  | ((first|refine aH ?_|refine aN ?_);simp(disch:=omega) [bj,lM,eu,eD,b1,cN,d4,d5,f0,f1,f2,f3,f4,f10,f11,f12,f13,f41,f49]))
 refine na (fun q s=>∃r,q*y1+r=w/\JD<=q/\r<4294967296/\s.F 12=e3 q/\s.F 13=e3 r) (fun s=>s.F 12=e3 JD) (fun _=>False) (w/y1) ?_ ?_ ?_ (fun _ _ h=>h.elim)
 · exact ⟨w%y1,by rw[Nat.mul_comm];exact Tc,Ta,by omega,f12,f13⟩
 · clear eu eD b1
   rintro q s aI ⟨r,bo,sf,bf,dh,gx⟩
   replace f2:=(aI 2 rfl).trans f2;replace f3:=(aI 3 rfl).trans f3;replace f4:=(aI 4 rfl).trans f4
   clear f12 f13
   have f12:=dh
   have f13:=gx
   obtain⟨Z0,l5,ef,eW,kQ⟩:=Cy bf qd
   have Z1:q<18446744073709551616:=by
    have:q*1<=q*y1:=Nat.mul_le_mul_left q lM
    omega
   have l6:y0<18446744073709551616:=by omega
   have s1:=gs q r bo sf
   have s2:=Tb q r bo
   generalize two r x0=v at*
   have main:(q<4294967296/\q*y0<=v)\/(4294967296<=q\/(q<4294967296/\v<q*y0)):=by omega
   have CA:q<4294967296->q*y0<18446744073709551616:=fun h=>by
    have:q*y0<=4294967295*4294967295:=Nat.mul_le_mul (by omega) (by omega)
    omega
   refine al [2,3,4,12,13,41,49] ?_
   intro F
   simp only[ak]
   intro aa af ad aX aZ g7 g8
   try simp[aS,f2,f3,f4,f12,f13] at aa af ad aX aZ g7 g8
   clear f2 f3 f4 f12 f13
   have f2:=aa
   have f3:=af
   have f4:=ad
   have f12:=aX
   have f13:=aZ
   have f41:=g7
   have f49:=g8
   clear aa af ad aX aZ g7 g8
   rcases main with⟨bz,b4⟩|main
   · have e:=s1 bz b4
     have lr:=CA bz
     generalize lu:q*y0=CB at*
     repeat' (first
      | refine ax ?_
      | ((fail_if_success (refine aQ ?_));(fail_if_success (refine aR ?_));refine aL ?_)
      | ((first|(refine az aM ?_;simp(disch:=omega) [l5,ef,eW,kQ,lu,bz,b4,lr,l6,f2,f3,f4,f12,f13,f41,f49];(try(refine⟨by first|decide|rfl,?_⟩)))|(refine aK ?_;simp(disch:=omega) [l5,ef,eW,kQ,lu,bz,b4,lr,l6,f2,f3,f4,f12,f13,f41,f49]));(try(refine al [2,3,4,12,13,41,49] ?_;intro F;simp only[ak];intro aa af ad aX aZ g7 g8;simp(disch:=omega) [l5,ef,eW,kQ,lu,bz,b4,lr,l6,f2,f3,f4,f12,f13,f41,f49] at aa af ad aX aZ g7 g8;clear f2 f3 f4 f12 f13 f41 f49;have f2:=aa;have f3:=af;have f4:=ad;have f12:=aX;have f13:=aZ;have f41:=g7;have f49:=g8;clear aa af ad aX aZ g7 g8)))
      | (refine aJ _ (by simp(disch:=omega) [l5,ef,eW,kQ,lu,bz,b4,lr,l6,f2,f3,f4,f12,f13,f41,f49];rfl) (fun I=>?_) (fun I=>?_)<;>first|(exfalso;simp(disch:=omega) [l5,ef,eW,kQ,lu,bz,b4,lr,l6] at I;done)|(exfalso;simp at I;omega)|(simp at I))
      | ((first|refine aH ?_|refine aN ?_);simp(disch:=omega) [l5,ef,eW,kQ,lu,bz,b4,lr,l6,f2,f3,f4,f12,f13,f41,f49]))
     first|exact e|(rw[f12,e])
   · obtain⟨b3,ed⟩:=s2 (by omega)
     have aj:(q+18446744073709551615)%18446744073709551616=q - 1:=by omega
     have aq:r+y1<18446744073709551616:=by omega
     have si:(q - 1)*y1+(r+y1)=w:=by
      rw[<-bo]
      obtain⟨p,rfl⟩:∃p,q=p+1:=⟨q - 1,by omega⟩
      rw[Nat.add_sub_cancel,Nat.add_mul];omega
     by_cases hF:4294967296<=r+y1
     · have e:=mZ (q - 1) (r+y1) si b3 hF
       rcases main with bz|⟨bz,b4⟩
       · skip
         repeat' (first
          | refine ax ?_
          | ((fail_if_success (refine aQ ?_));(fail_if_success (refine aR ?_));refine aL ?_)
          | ((first|(refine az aM ?_;simp(disch:=omega) [bz,aj,aq,hF,d4,f2,f3,f4,f12,f13,f41,f49];(try(refine⟨by first|decide|rfl,?_⟩)))|(refine aK ?_;simp(disch:=omega) [bz,aj,aq,hF,d4,f2,f3,f4,f12,f13,f41,f49]));(try(refine al [2,3,4,12,13,41,49] ?_;intro F;simp only[ak];intro aa af ad aX aZ g7 g8;simp(disch:=omega) [bz,aj,aq,hF,d4,f2,f3,f4,f12,f13,f41,f49] at aa af ad aX aZ g7 g8;clear f2 f3 f4 f12 f13 f41 f49;have f2:=aa;have f3:=af;have f4:=ad;have f12:=aX;have f13:=aZ;have f41:=g7;have f49:=g8;clear aa af ad aX aZ g7 g8)))
          | (refine aJ _ (by simp(disch:=omega) [bz,aj,aq,hF,d4,f2,f3,f4,f12,f13,f41,f49];rfl) (fun I=>?_) (fun I=>?_)<;>first|(exfalso;simp(disch:=omega) [bz,aj,aq,hF,d4] at I;done)|(exfalso;simp at I;omega)|(simp at I))
          | ((first|refine aH ?_|refine aN ?_);simp(disch:=omega) [bz,aj,aq,hF,d4,f2,f3,f4,f12,f13,f41,f49]))
         first|exact e|(rw[f12,e])
       · have lr:=CA bz
         generalize lu:q*y0=CB at*
         repeat' (first
          | refine ax ?_
          | ((fail_if_success (refine aQ ?_));(fail_if_success (refine aR ?_));refine aL ?_)
          | ((first|(refine az aM ?_;simp(disch:=omega) [l5,ef,eW,kQ,lu,bz,b4,lr,l6,aj,aq,hF,d4,f2,f3,f4,f12,f13,f41,f49];(try(refine⟨by first|decide|rfl,?_⟩)))|(refine aK ?_;simp(disch:=omega) [l5,ef,eW,kQ,lu,bz,b4,lr,l6,aj,aq,hF,d4,f2,f3,f4,f12,f13,f41,f49]));(try(refine al [2,3,4,12,13,41,49] ?_;intro F;simp only[ak];intro aa af ad aX aZ g7 g8;simp(disch:=omega) [l5,ef,eW,kQ,lu,bz,b4,lr,l6,aj,aq,hF,d4,f2,f3,f4,f12,f13,f41,f49] at aa af ad aX aZ g7 g8;clear f2 f3 f4 f12 f13 f41 f49;have f2:=aa;have f3:=af;have f4:=ad;have f12:=aX;have f13:=aZ;have f41:=g7;have f49:=g8;clear aa af ad aX aZ g7 g8)))
          | (refine aJ _ (by simp(disch:=omega) [l5,ef,eW,kQ,lu,bz,b4,lr,l6,aj,aq,hF,d4,f2,f3,f4,f12,f13,f41,f49];rfl) (fun I=>?_) (fun I=>?_)<;>first|(exfalso;simp(disch:=omega) [l5,ef,eW,kQ,lu,bz,b4,lr,l6,aj,aq,hF,d4] at I;done)|(exfalso;simp at I;omega)|(simp at I))
          | ((first|refine aH ?_|refine aN ?_);simp(disch:=omega) [l5,ef,eW,kQ,lu,bz,b4,lr,l6,aj,aq,hF,d4,f2,f3,f4,f12,f13,f41,f49]))
         first|exact e|(rw[f12,e])
     · rcases main with bz|⟨bz,b4⟩
       · skip
         repeat' (first
          | refine ax ?_
          | ((fail_if_success (refine aQ ?_));(fail_if_success (refine aR ?_));refine aL ?_)
          | ((first|(refine az aM ?_;simp(disch:=omega) [bz,aj,aq,hF,d4,f2,f3,f4,f12,f13,f41,f49];(try(refine⟨by first|decide|rfl,?_⟩)))|(refine aK ?_;simp(disch:=omega) [bz,aj,aq,hF,d4,f2,f3,f4,f12,f13,f41,f49]));(try(refine al [2,3,4,12,13,41,49] ?_;intro F;simp only[ak];intro aa af ad aX aZ g7 g8;simp(disch:=omega) [bz,aj,aq,hF,d4,f2,f3,f4,f12,f13,f41,f49] at aa af ad aX aZ g7 g8;clear f2 f3 f4 f12 f13 f41 f49;have f2:=aa;have f3:=af;have f4:=ad;have f12:=aX;have f13:=aZ;have f41:=g7;have f49:=g8;clear aa af ad aX aZ g7 g8)))
          | (refine aJ _ (by simp(disch:=omega) [bz,aj,aq,hF,d4,f2,f3,f4,f12,f13,f41,f49];rfl) (fun I=>?_) (fun I=>?_)<;>first|(exfalso;simp(disch:=omega) [bz,aj,aq,hF,d4] at I;done)|(exfalso;simp at I;omega)|(simp at I))
          | ((first|refine aH ?_|refine aN ?_);simp(disch:=omega) [bz,aj,aq,hF,d4,f2,f3,f4,f12,f13,f41,f49]))
         exact ⟨q - 1,by omega,r+y1,si,b3,by omega,by first|rfl|exact f12,by first|rfl|exact f13⟩
       · have lr:=CA bz
         generalize lu:q*y0=CB at*
         repeat' (first
          | refine ax ?_
          | ((fail_if_success (refine aQ ?_));(fail_if_success (refine aR ?_));refine aL ?_)
          | ((first|(refine az aM ?_;simp(disch:=omega) [l5,ef,eW,kQ,lu,bz,b4,lr,l6,aj,aq,hF,d4,f2,f3,f4,f12,f13,f41,f49];(try(refine⟨by first|decide|rfl,?_⟩)))|(refine aK ?_;simp(disch:=omega) [l5,ef,eW,kQ,lu,bz,b4,lr,l6,aj,aq,hF,d4,f2,f3,f4,f12,f13,f41,f49]));(try(refine al [2,3,4,12,13,41,49] ?_;intro F;simp only[ak];intro aa af ad aX aZ g7 g8;simp(disch:=omega) [l5,ef,eW,kQ,lu,bz,b4,lr,l6,aj,aq,hF,d4,f2,f3,f4,f12,f13,f41,f49] at aa af ad aX aZ g7 g8;clear f2 f3 f4 f12 f13 f41 f49;have f2:=aa;have f3:=af;have f4:=ad;have f12:=aX;have f13:=aZ;have f41:=g7;have f49:=g8;clear aa af ad aX aZ g7 g8)))
          | (refine aJ _ (by simp(disch:=omega) [l5,ef,eW,kQ,lu,bz,b4,lr,l6,aj,aq,hF,d4,f2,f3,f4,f12,f13,f41,f49];rfl) (fun I=>?_) (fun I=>?_)<;>first|(exfalso;simp(disch:=omega) [l5,ef,eW,kQ,lu,bz,b4,lr,l6,aj,aq,hF,d4] at I;done)|(exfalso;simp at I;omega)|(simp at I))
          | ((first|refine aH ?_|refine aN ?_);simp(disch:=omega) [l5,ef,eW,kQ,lu,bz,b4,lr,l6,aj,aq,hF,d4,f2,f3,f4,f12,f13,f41,f49]))
         exact ⟨q - 1,by omega,r+y1,si,b3,by omega,by first|rfl|exact f12,by first|rfl|exact f13⟩
 · rintro s aI dh
   clear f12 f13
   have f12:=dh
   refine al [10,12] ?_
   intro F
   simp only[ak]
   intro aB aX
   try simp[aS,f12] at aB aX
   clear f12
   have f10:=aB
   have f12:=aX
   clear aB aX
   repeat' (first
    | refine ax ?_
    | ((fail_if_success (refine aQ ?_));(fail_if_success (refine aR ?_));refine aL ?_)
    | ((first|(refine az aM ?_;simp(disch:=omega) [f10,f12];(try(refine⟨by first|decide|rfl,?_⟩)))|(refine aK ?_;simp(disch:=omega) [f10,f12]));(try(refine al [10,12] ?_;intro F;simp only[ak];intro aB aX;simp(disch:=omega) [f10,f12] at aB aX;clear f10 f12;have f10:=aB;have f12:=aX;clear aB aX)))
    | (refine aJ _ (by simp(disch:=omega) [f10,f12];rfl) (fun I=>?_) (fun I=>?_)<;>first|(exfalso;simp(disch:=omega) at I;done)|(exfalso;simp at I;omega)|(simp at I))
    | ((first|refine aH ?_|refine aN ?_);simp(disch:=omega) [f10,f12]))
end
section
attribute [local irreducible] cQ
attribute [local simp] ek eL du
noncomputable def rC:FuncId->Option (List J->Option J):=da [(98,ln),(156,zf)]
theorem Td:∀f T,rC f=some T->bl Tryz.prog G f T:=dc (by simp only[List.forall_mem_cons];exact ⟨qt,S7,fun _ h=>absurd h (by simp)⟩)
theorem Te:rC 98=some ln:=rfl
theorem Tf:rC 156=some zf:=rfl
theorem Tg:rC 155=none:=rfl
theorem Th:rC 167=none:=rfl
attribute [local simp] Te Tf Tg Th
structure tb (lT wH sF q y a m L i:Nat) (o:List Nat) (r:Nat) (h:aF):Prop where
 ol:o.length=L
 os:Small o
 CC:∀j,j<i->a5 o j=0
 er:r<m
 eq:m*val o+aE i*r=aE i*(a/aE i)
 dF:h.cells lT=some [b2 m]
 mw:h.cells wH=some [.ref q 0 L L]
 me:h.cells sF=some [b2 r]
 k6:h.cells q=some (cm o)
 mA:h.shut q=false
 hl:h.shut sF=false
 kF:h.bu y=some .ready
 tc:y<h.next
theorem tb.bump {lT wH sF q y a m L i:Nat} {o:List Nat} {r:Nat} {h:aF} (a3:tb lT wH sF q y a m L i o r h) (n:Nat) (aC:h.next<=n):tb lT wH sF q y a m L i o r ⟨h.cells,h.shut,n,h.bu⟩:=
 ⟨a3.ol,a3.os,a3.CC,a3.er,a3.eq,a3.dF,a3.mw,a3.me,a3.k6,a3.mA,a3.hl,a3.kF,Nat.lt_of_lt_of_le a3.tc aC⟩
theorem Ti (Y:List dm) {F:Nat->J} {a m L i:Nat} (f3:F 3= .ptr 0 0 0) (f7:F 7= .ptr 9 0 0) (f8:F 8= .ptr 11 0 0) {h:aF} {o:List Nat} {r:Nat} (hm:m<4294967296) (a3:tb 0 9 11 8 18 a m L (i+1) o r h) (an:i<L):
 ∃u ay,fv G (bk Tryz.prog) rC (⟨18,F,[18,19],(.seq (.region false [⟨(some 9),(.mv (.t 18)),none⟩] []) (.region false [⟨(some 10),(.mv (.t 19)),none⟩] [])),(.block 1 (.region true [⟨(some 21),(.load false 1 (.t 7)),none⟩,⟨(some 22),(.mv (.t 9)),none⟩,⟨(some 23),(.load false 1 (.t 8)),none⟩,⟨(some 24),(.mv (.t 10)),none⟩,⟨(some 25),(.load false 1 (.t 3)),none⟩,⟨(some 26),(.call (.f 156) [(.t 23),(.t 24),(.t 25)]),none⟩,⟨(some 20),(.mv (.t 26)),none⟩,⟨(some 27),(.extract (.t 20) 0),none⟩,⟨(some 28),(.extract (.t 20) 1),none⟩,⟨(some 29),(.iaddrS 1 (.t 21) (.t 22)),none⟩,⟨none,(.store 1 (.t 29) (.t 27)),none⟩,⟨none,(.store 1 (.t 8) (.t 28)),none⟩] [0,0,0,0,0,28,60,124,124,255,767,2047]))⟩::Y) (.lR 18) [bp i,b2 (a/aE i%4294967296)] h=some (u,ay)/\u= .bool true/\(∃o' hc,tb 0 9 11 8 18 a m L i o' hc ay)/\h.next<=ay.next/\∀j,j=14->ay.cells j=h.cells j:=by
 have av:a/aE i%4294967296<4294967296:=Nat.mod_lt _ (by decide)
 obtain⟨x,e4⟩:∃x,x=a/aE i%4294967296:=⟨_,rfl⟩
 rw[<-e4] at av|-
 have t:=S6 (r,x,m) ⟨a3.er,av,hm⟩ (args:=[b2 r,b2 x,b2 m]) (by simp)
 simp only at t
 obtain⟨d1,d2⟩:=Jz a3.er av hm
 have hh:=a3.ol
 have st:=S4 (y:=a5 o i) (nw (two r x/m) (show i<o.length by omega)) (a3.CC i (by omega)) (by have:=a3.eq;rw[eQ] at this;exact this) rfl
 rw[e4,<-eQ,rh,Nat.mod_add_div] at st
 rw[<-e4] at st
 have go:=kP (show i<o.length by omega)
 have sz:=lq (show 0<o.length by omega)
 have set:=pU o i (two r x/m)
 have dF:=a3.dF
 have mw:=a3.mw
 have me:=a3.me
 have k6:=a3.k6
 have mA:=a3.mA
 have hl:=a3.hl
 have tc:=a3.tc
 clear e4
 generalize two r x=z at*
 refine Bn (L:=⟨18,F,[18,19],(.seq (.region false [⟨(some 9),(.mv (.t 18)),none⟩] []) (.region false [⟨(some 10),(.mv (.t 19)),none⟩] [])),(.block 1 (.region true [⟨(some 21),(.load false 1 (.t 7)),none⟩,⟨(some 22),(.mv (.t 9)),none⟩,⟨(some 23),(.load false 1 (.t 8)),none⟩,⟨(some 24),(.mv (.t 10)),none⟩,⟨(some 25),(.load false 1 (.t 3)),none⟩,⟨(some 26),(.call (.f 156) [(.t 23),(.t 24),(.t 25)]),none⟩,⟨(some 20),(.mv (.t 26)),none⟩,⟨(some 27),(.extract (.t 20) 0),none⟩,⟨(some 28),(.extract (.t 20) 1),none⟩,⟨(some 29),(.iaddrS 1 (.t 21) (.t 22)),none⟩,⟨none,(.store 1 (.t 29) (.t 27)),none⟩,⟨none,(.store 1 (.t 8) (.t 28)),none⟩] [0,0,0,0,0,28,60,124,124,255,767,2047]))⟩) (Y':=Y) (by simp[oT]) rfl ?_
 simp only[ni]
 have eS:aG (aG F 18 (bp i)) 19 (b2 x) 3= .ptr 0 0 0:=by simp[aG,f3]
 have h4:aG (aG F 18 (bp i)) 19 (b2 x) 7= .ptr 9 0 0:=by simp[aG,f7]
 have kp:aG (aG F 18 (bp i)) 19 (b2 x) 8= .ptr 11 0 0:=by simp[aG,f8]
 refine ax (az cz ?_)
 simp
 refine az cz ?_
 simp[a3.kF,Nat.add_assoc]
 refine aL (az cz ?_)
 simp(disch:=omega) [aS,List.getElem?_cons_zero,List.getElem?_cons_succ,fa,eh,gl,Nat.mod_eq_of_lt,kH,kI,kJ,kK,gL,kL,kM,kN,f3,f7,f8,dF,mw,me,k6,mA,hl,t,go,sz,set,an,Nat.add_assoc,r2,kV,vQ,pt,p4]
 refine⟨by decide,o.set i (z/m),z%m,by rw[List.length_set];exact hh,nx a3.os d1,fun j bb=>?_,Nat.mod_lt _ (by have:=a3.er;omega),st,by simp[aG,dF],by simp[aG,mw],by simp[aG],by simp[aG],mA,hl,by simp[aG],by show 18<h.next+14;omega⟩
 rw[ou _ _ (by omega),if_neg (by omega)]
 exact a3.CC j (by omega)
theorem uX (Y:List dm) (h:aF) (l:List Nat) (e:Bool):
 fv G (bk Tryz.prog) rC Y (.fn 155) [cH l e] h=some (.fn 167 [] [.ptr h.next 0 0],⟨aG h.cells h.next (some [cH l e]),h.shut,h.next+4,h.bu⟩):=by
 obtain⟨v,ay,e,rfl,rfl⟩:=k3 (Φ:=bk Tryz.prog) (G:=G) (tab:=rC) (Y:=Y) (h:=h) (args:=[cH l e]) (R:=fun v ay=>v= .fn 167 [] [.ptr h.next 0 0]/\ay=⟨aG h.cells h.next (some [cH l e]),h.shut,h.next+4,h.bu⟩) Ht (by
  unfold i155
  refine al [0,1,2] fun F=>?_
  simp only[ak]
  intro f0 f1 f2
  simp[a8] at f0 f1 f2
  repeat' (first
   | refine ax ?_
   | ((fail_if_success (refine aQ ?_));(fail_if_success (refine aR ?_));refine aL ?_)
   | ((first|(refine az cz ?_;simp(disch:=omega) [Nat.add_assoc,f0,f1,f2];(try(refine⟨by first|decide|rfl,?_⟩)))|(refine aK ?_;simp(disch:=omega) [Nat.add_assoc,f0,f1,f2]));(try(refine al [0,1,2] ?_;intro F;simp only[ak];intro U ab aa;simp(disch:=omega) [Nat.add_assoc,f0,f1,f2] at U ab aa;clear f0 f1 f2;have f0:=U;have f1:=ab;have f2:=aa;clear U ab aa)))
   | (refine aJ _ (by simp(disch:=omega) [Nat.add_assoc,f0,f1,f2];rfl) (fun I=>?_) (fun I=>?_)<;>first|(exfalso;simp(disch:=omega) [Nat.add_assoc] at I;done)|(exfalso;simp at I;omega)|(simp at I))
   | ((first|refine aH ?_|refine aN ?_);simp(disch:=omega) [Nat.add_assoc,f0,f1,f2]))
  refine aH ?_
  simp[hT,f2])
 exact e
noncomputable def uY:List J->Option J:=cl (fun z:Nat × Nat=>(ai z.1).length<=100000000/\z.2<4294967296) (fun z=>[aw z.1,b2 z.2]) (fun z=>if z.2=0 then .cb [.sl [] false,b2 0,bp 3] else .cb [aw (z.1/z.2),b2 (z.1%z.2),bp 0])
theorem Tj (z:Nat × Nat) (h:(ai z.1).length<=100000000/\z.2<4294967296) {args:List J} (he:args.map J.loose= [aw z.1,b2 z.2]):uY args=some (if z.2=0 then .cb [.sl [] false,b2 0,bp 3] else .cb [aw (z.1/z.2),b2 (z.1%z.2),bp 0]):=cI (fun z w h=>by first|(simp only[List.cons.injEq,J.int.injEq,J.bool.injEq,J.sl.injEq,bT,bU,bY,bZ,bX,bG,bL,bV,bI,true_and,and_true] at h;simp[h];done)|(simp only[J.agg.injEq,List.cons.injEq,J.int.injEq,J.bool.injEq,J.sl.injEq,bT,bU,bY,bZ,bX,bG,bL,bV,bI,true_and,and_true] at h;simp[h])) z h he
theorem JE:bl Tryz.prog G 139 uY:=by
 refine cJ mixed Td Hf fun z aV=>?_
 obtain⟨a,m⟩:=z
 obtain⟨cZ,hm⟩:=aV
 simp only at cZ hm|-
 unfold i139
 by_cases my:m=0
 · rw[if_pos my]
   subst my
   refine al [0,1,3,4,5,6,7,8,9,10,12,17,18,19] fun F=>?_
   simp only[ak]
   intro f0 f1 f3 f4 f5 f6 f7 f8 f9 f10 f12 f17 f18 f19
   simp[a8] at f0 f1 f3 f4 f5 f6 f7 f8 f9 f10 f12 f17 f18 f19
   repeat' (first
    | refine ax ?_
    | ((fail_if_success (refine aQ ?_));(fail_if_success (refine aR ?_));refine aL ?_)
    | ((first|(refine az cz ?_;simp(disch:=omega) [f0,f1,f3,f4,f5,f6,f7,f8,f9,f10,f12,f17,f18,f19];(try(refine⟨by first|decide|rfl,?_⟩)))|(refine aK ?_;simp(disch:=omega) [f0,f1,f3,f4,f5,f6,f7,f8,f9,f10,f12,f17,f18,f19]));(try(refine al [0,1,3,4,5,6,7,8,9,10,12,17,18,19] ?_;intro F;simp only[ak];intro U ab af ad ah ag ar ao aA aB aX bx bP dX;simp(disch:=omega) [f0,f1,f3,f4,f5,f6,f7,f8,f9,f10,f12,f17,f18,f19] at U ab af ad ah ag ar ao aA aB aX bx bP dX;clear f0 f1 f3 f4 f5 f6 f7 f8 f9 f10 f12 f17 f18 f19;have f0:=U;have f1:=ab;have f3:=af;have f4:=ad;have f5:=ah;have f6:=ag;have f7:=ar;have f8:=ao;have f9:=aA;have f10:=aB;have f12:=aX;have f17:=bx;have f18:=bP;have f19:=dX;clear U ab af ad ah ag ar ao aA aB aX bx bP dX)))
    | (refine aJ _ (by simp(disch:=omega) [f0,f1,f3,f4,f5,f6,f7,f8,f9,f10,f12,f17,f18,f19];rfl) (fun I=>?_) (fun I=>?_)<;>first|(exfalso;simp(disch:=omega) at I;done)|(exfalso;simp at I;omega)|(simp at I))
    | ((first|refine aH ?_|refine aN ?_);simp(disch:=omega) [f0,f1,f3,f4,f5,f6,f7,f8,f9,f10,f12,f17,f18,f19]))
 · rw[if_neg my]
   have bF:=dW a
   obtain⟨L,a_⟩:∃L,L=(ai a).length:=⟨_,rfl⟩
   have aU:a<aE L:=c8.1 (by omega)
   have a2:Z L*4<=140737488355328:=by simp only[Z];omega
   refine al [0,1,3,4,5,6,7,8,9,10,12,17,18,19] fun F=>?_
   simp only[ak]
   intro f0 f1 f3 f4 f5 f6 f7 f8 f9 f10 f12 f17 f18 f19
   simp[a8] at f0 f1 f3 f4 f5 f6 f7 f8 f9 f10 f12 f17 f18 f19
   repeat' (first
    | refine ax ?_
    | ((fail_if_success (refine aQ ?_));(fail_if_success (refine aR ?_));refine aL ?_)
    | ((first|(refine az cz ?_;simp(disch:=omega) [my,a2,h6,uX,<-a_,f0,f1,f3,f4,f5,f6,f7,f8,f9,f10,f12,f17,f18,f19];(try(refine⟨by first|decide|rfl,?_⟩)))|(refine aK ?_;simp(disch:=omega) [my,a2,h6,uX,<-a_,f0,f1,f3,f4,f5,f6,f7,f8,f9,f10,f12,f17,f18,f19]));(try(refine al [0,1,3,4,5,6,7,8,9,10,12,17,18,19] ?_;intro F;simp only[ak];intro U ab af ad ah ag ar ao aA aB aX bx bP dX;simp(disch:=omega) [my,a2,h6,uX,<-a_,f0,f1,f3,f4,f5,f6,f7,f8,f9,f10,f12,f17,f18,f19] at U ab af ad ah ag ar ao aA aB aX bx bP dX;clear f0 f1 f3 f4 f5 f6 f7 f8 f9 f10 f12 f17 f18 f19;have f0:=U;have f1:=ab;have f3:=af;have f4:=ad;have f5:=ah;have f6:=ag;have f7:=ar;have f8:=ao;have f9:=aA;have f10:=aB;have f12:=aX;have f17:=bx;have f18:=bP;have f19:=dX;clear U ab af ad ah ag ar ao aA aB aX bx bP dX)))
    | (refine aJ _ (by simp(disch:=omega) [my,a2,h6,uX,<-a_,f0,f1,f3,f4,f5,f6,f7,f8,f9,f10,f12,f17,f18,f19];rfl) (fun I=>?_) (fun I=>?_)<;>first|(exfalso;simp(disch:=omega) [my,a2,h6,uX,<-a_] at I;done)|(exfalso;simp at I;omega)|(simp at I))
    | ((first|refine aH ?_|refine aN ?_);simp(disch:=omega) [my,a2,h6,uX,<-a_,f0,f1,f3,f4,f5,f6,f7,f8,f9,f10,f12,f17,f18,f19]))
   refine aL (Bm f17 Hy ?_)
   have eS:=f3
   have h4:=f7
   have kp:=f8
   clear f0 f1 f3 f4 f5 f6 f7 f8 f9 f10 f12 f17 f18 f19
   unfold i167
   simp
   have g4:IntKind.i64.wrap (Z L - Z 1)=lK L:=nb (by omega)
   refine al [0,1,3,8,18] fun F=>?_
   simp only[ak]
   intro f0 f1 f3 f8 f18
   simp[a8] at f0 f1 f3 f8 f18
   repeat' (first
    | refine ax ?_
    | ((fail_if_success (refine aQ ?_));(fail_if_success (refine aR ?_));refine aL ?_)
    | ((first|(refine az cz ?_;simp(disch:=omega) [g4,<-a_,f0,f1,f3,f8,f18];(try(refine⟨by first|decide|rfl,?_⟩)))|(refine aK ?_;simp(disch:=omega) [g4,<-a_,f0,f1,f3,f8,f18]));(try(refine al [0,1,3,8,18] ?_;intro F;simp only[ak];intro U ab af ao bP;simp(disch:=omega) [g4,<-a_,f0,f1,f3,f8,f18] at U ab af ao bP;clear f0 f1 f3 f8 f18;have f0:=U;have f1:=ab;have f3:=af;have f8:=ao;have f18:=bP;clear U ab af ao bP)))
    | (refine aJ _ (by simp(disch:=omega) [g4,<-a_,f0,f1,f3,f8,f18];rfl) (fun I=>?_) (fun I=>?_)<;>first|(exfalso;simp(disch:=omega) [g4,<-a_] at I;done)|(exfalso;simp at I;omega)|(simp at I))
    | ((first|refine aH ?_|refine aN ?_);simp(disch:=omega) [g4,<-a_,f0,f1,f3,f8,f18]))
   refine na (fun k s=>k<=L/\(∃o r,tb 0 9 11 8 18 a m L k o r s.h)/\s.h.cells 14=some [aw a]/\s.F 3= .int .i64 (lK k)) (fun s=>∃o r,tb 0 9 11 8 18 a m L 0 o r s.h) (fun _=>False) L ?_ ?_ ?_ (fun _ _ h=>h.elim)
   · refine⟨Nat.le_refl _,⟨List.replicate L 0,0,?_⟩,by simp[aG],f3⟩
     exact ⟨by simp,qs _,fun j _=>wN _ _,by omega,by simp[sG,Nat.div_eq_of_lt aU],by simp[aG],by simp[aG],by simp[aG],by simp[aG],by simp,by simp,by simp[aG],by simp⟩
   · rintro k s aI ⟨Z2,⟨o,r,a3⟩,qD,JF⟩
     replace f0:=(aI 0 rfl).trans f0;replace f1:=(aI 1 rfl).trans f1
     clear f3
     have f3:=JF
     clear JF
     refine al [0,1,3,8,18] ?_
     intro F
     simp only[ak]
     intro U ab af ao bP
     try simp[aS,f0,f1,f3] at U ab af ao bP
     clear f0 f1 f3
     have f0:=U
     have f1:=ab
     have f3:=af
     have f8:=ao
     have f18:=bP
     clear U ab af ao bP
     cases k with
     | zero=>
       rw[sJ] at f3
       repeat' (first
        | refine ax ?_
        | ((fail_if_success (refine aQ ?_));(fail_if_success (refine aR ?_));refine aL ?_)
        | ((first|(refine az cz ?_;simp(disch:=omega) [lZ,f0,f1,f3,f8,f18];(try(refine⟨by first|decide|rfl,?_⟩)))|(refine aK ?_;simp(disch:=omega) [lZ,f0,f1,f3,f8,f18]));(try(refine al [0,1,3,8,18] ?_;intro F;simp only[ak];intro U ab af ao bP;simp(disch:=omega) [lZ,f0,f1,f3,f8,f18] at U ab af ao bP;clear f0 f1 f3 f8 f18;have f0:=U;have f1:=ab;have f3:=af;have f8:=ao;have f18:=bP;clear U ab af ao bP)))
        | (refine aJ _ (by simp(disch:=omega) [lZ,f0,f1,f3,f8,f18];rfl) (fun I=>?_) (fun I=>?_)<;>first|(exfalso;simp(disch:=omega) [lZ] at I;done)|(exfalso;simp at I;omega)|(simp at I))
        | ((first|refine aH ?_|refine aN ?_);simp(disch:=omega) [lZ,f0,f1,f3,f8,f18]))
       exact ⟨o,r,a3.bump _ (by omega)⟩
     | succ i=>
       rw[uo] at f3
       have gW:=(k4 (show i<(ai a).length by omega)).symm
       rw[gv] at gW
       have mV:=fun n aC=>a3.bump n aC
       have h8:i<L:=by omega
       have uZ:IntKind.i64.wrap (Z i - Z 1)=lK i:=nb (by omega)
       obtain⟨u,ay,gB,rfl,uC,su,l3⟩:=Ti [] eS h4 kp hm (mV (s.h.next+10) (by omega)) h8
       have l3:=l3 14 rfl
       simp only at su l3
       rw[qD] at l3
       have tc:=a3.tc
       repeat' (first
        | refine ax ?_
        | ((fail_if_success (refine aQ ?_));(fail_if_success (refine aR ?_));refine aL ?_)
        | ((first|(refine az cz ?_;simp(disch:=omega) [qD,gW,h8,uZ,gB,Nat.add_assoc,<-a_,f0,f1,f3,f8,f18];(try(refine⟨by first|decide|rfl,?_⟩)))|(refine aK ?_;simp(disch:=omega) [qD,gW,h8,uZ,gB,Nat.add_assoc,<-a_,f0,f1,f3,f8,f18]));(try(refine al [0,1,3,8,18] ?_;intro F;simp only[ak];intro U ab af ao bP;simp(disch:=omega) [qD,gW,h8,uZ,gB,Nat.add_assoc,<-a_,f0,f1,f3,f8,f18] at U ab af ao bP;clear f0 f1 f3 f8 f18;have f0:=U;have f1:=ab;have f3:=af;have f8:=ao;have f18:=bP;clear U ab af ao bP)))
        | (refine aJ _ (by simp(disch:=omega) [qD,gW,h8,uZ,gB,Nat.add_assoc,<-a_,f0,f1,f3,f8,f18];rfl) (fun I=>?_) (fun I=>?_)<;>first|(exfalso;simp(disch:=omega) [qD,gW,h8,uZ,gB,Nat.add_assoc,<-a_] at I;done)|(exfalso;simp at I;omega)|(simp at I))
        | ((first|refine aH ?_|refine aN ?_);simp(disch:=omega) [qD,gW,h8,uZ,gB,Nat.add_assoc,<-a_,f0,f1,f3,f8,f18]))
       obtain⟨o',hc,uC⟩:=uC
       exact ⟨i,Nat.lt_succ_self i,by omega,⟨o',hc,uC.bump _ (by omega)⟩,l3,by first|rfl|exact f3⟩
   · rintro s aI ⟨o,r,a3⟩
     have mw:=a3.mw
     have me:=a3.me
     have k6:=a3.k6
     have hh:=a3.ol
     have tc:=a3.tc
     have nP:8<s.h.next:=by omega
     have dH:9<s.h.next:=by omega
     have m1:11<s.h.next:=by omega
     have e:=a3.eq
     rw[fC,Nat.one_mul,Nat.one_mul,Nat.div_one] at e
     have uR:=a3.er
     have aj:val o=a/m:=by rw[<-e,Nat.mul_add_div (by omega),Nat.div_eq_of_lt uR,Nat.add_zero]
     have aq:r=a%m:=by rw[<-e,Nat.mul_add_mod,Nat.mod_eq_of_lt uR]
     have cS:=pR (e:=false) a3.os (show o.length<=1073741824 by omega)
     rw[aj] at cS
     have fe:=y5 (show o.length<=L by omega)
     have kG:=y4 o
     have yW:=qA o
     have hle:L<=(cm o).length:=by omega
     rw[show (o.map fun n=>J.int .u32 (Z n))=cm o from rfl] at cS
     refine⟨trivial,⟨_,rfl⟩,?_⟩
     simp only[a3.kF]
     rw[<-aq]
     generalize a/m=Z3 at*
     simp
     have f7:=h4
     have f8:=kp
     refine al [4,5,6,7,8] ?_
     intro F
     simp only[ak]
     intro ad ah ag ar ao
     try simp[aS,f7,f8] at ad ah ag ar ao
     clear f7 f8
     have f4:=ad
     have f5:=ah
     have f6:=ag
     have f7:=ar
     have f8:=ao
     clear ad ah ag ar ao
     repeat' (first
      | refine ax ?_
      | ((fail_if_success (refine aQ ?_));(fail_if_success (refine aR ?_));refine aL ?_)
      | ((first|(refine az cz ?_;simp(disch:=omega) [mw,me,k6,cS,fe,kG,hle,nP,dH,m1,f4,f5,f6,f7,f8];(try(refine⟨by first|decide|rfl,?_⟩)))|(refine aK ?_;simp(disch:=omega) [mw,me,k6,cS,fe,kG,hle,nP,dH,m1,f4,f5,f6,f7,f8]));(try(refine al [4,5,6,7,8] ?_;intro F;simp only[ak];intro ad ah ag ar ao;simp(disch:=omega) [mw,me,k6,cS,fe,kG,hle,nP,dH,m1,f4,f5,f6,f7,f8] at ad ah ag ar ao;clear f4 f5 f6 f7 f8;have f4:=ad;have f5:=ah;have f6:=ag;have f7:=ar;have f8:=ao;clear ad ah ag ar ao)))
      | (refine aJ _ (by simp(disch:=omega) [mw,me,k6,cS,fe,kG,hle,nP,dH,m1,f4,f5,f6,f7,f8];rfl) (fun I=>?_) (fun I=>?_)<;>first|(exfalso;simp(disch:=omega) [mw,me,k6,cS,fe,kG,hle,nP,dH,m1] at I;done)|(exfalso;simp at I;omega)|(simp at I))
      | ((first|refine aH ?_|refine aN ?_);simp(disch:=omega) [mw,me,k6,cS,fe,kG,hle,nP,dH,m1,f4,f5,f6,f7,f8]))
end
section
attribute [local irreducible] cQ
attribute [local simp] ek eL du
noncomputable def h9:FuncId->Option (List J->Option J):=da [(45,mz),(139,uY),(140,zg),(141,uW),(124,mX),(126,sO),(136,sP)]
theorem Tk:∀f T,h9 f=some T->bl Tryz.prog G f T:=dc (by simp only[List.forall_mem_cons];exact ⟨sN,JE,S9,S',B',Iq,Is,fun _ h=>absurd h (by simp)⟩)
theorem zh:h9 45=some mz:=rfl
theorem Tl:h9 139=some uY:=rfl
theorem zi:h9 140=some zg:=rfl
theorem zj:h9 141=some uW:=rfl
theorem zk:h9 124=some mX:=rfl
theorem JG:h9 126=some sO:=rfl
theorem JH:h9 136=some sP:=rfl
theorem zl:h9 98=none:=rfl
theorem Tm:h9 130=none:=rfl
theorem zm:h9 93=none:=rfl
theorem w_:h9 142=none:=rfl
theorem w':h9 143=none:=rfl
theorem Tn:h9 122=none:=rfl
attribute [local simp] zh Tl zi zj zk JG JH zl Tm zm w_ w' Tn
structure Own (h ay:aF) (v:J) (o:List Nat):Prop where
 kept:Kept h ay
 val:(o= []/\v= .sl [] true)\/∃r,v= .ref r 0 o.length o.length/\h.next<=r/\fy ay r o
theorem To (o:List Nat) (n:Nat):List.take n (cm o)=cm (o.take n):=by rw[cm,cm,List.map_take]
theorem Tp (o:List Nat):(cm o).all (fun e=>e.cells.length == 1&&e.cells.all J.dp)=true:=by simp[cm,J.cells,J.dp]
theorem Tq (o:List Nat):(cm o).all (fun e=>e.cells.length == 1)=true:=by simp[cm,J.cells]
theorem Tr {r:Nat} {h:aF} {q n N:Nat} {o:List Nat} (I:h.cells q=some (cm o)) (aC:n<=o.length) (aS:0<n) (a6:n<=1000000000):
 mR r 1 4 h (.sl [] true) (.ref q 0 n N)=some (.ref r 0 n n,h.new r (cm (o.take n)),.wr):=by
 have e:elems h (.ref q 0 n N)=some (cm (o.take n)):=by
  simp only[elems,I];rw[if_pos (by rw[qA];omega),List.drop_zero,To]
 have hle:(cm (o.take n)).length=n:=by rw[qA,List.length_take];omega
 unfold mR
 rw[e]
 simp only[Option.bind_some]
 rw[if_pos ⟨by decide,by decide,Tp _⟩,if_neg (by omega)]
 simp only[lQ,hle,List.length_nil,Nat.zero_add,List.nil_append,Bool.false_eq_true,if_false]
 rw[if_pos (by refine⟨?_,?_,aS,?_⟩<;>first|trivial|omega|rfl)]
theorem Ts (Y:List dm) (h:aF) (cG:∀j,h.shut j=false) {q n:Nat} {o:List Nat} (V:fy h q o) (aC:n<=o.length) (aS:0<o.length) (a6:o.length<=1000000000):
 ∃v ay,fv G (bk Tryz.prog) h9 Y (.fn 130) [.ref q 0 n o.length] h=some (v,ay)/\Own h ay v (o.take n):=by
 refine k3 BC ?_
 have cD:=V.cells
 have dC:=lq aS
 unfold i130
 by_cases od:n=0
 · subst od
   have el:∀m p,elems ⟨h.cells,h.shut,m,p⟩ (.ref q 0 0 o.length)=some []:=fun m p=>by simp[elems,cD]
   have ap:∀m p r,mR r 1 4 ⟨h.cells,h.shut,m,p⟩ (.sl [] true) (.ref q 0 0 o.length)=some (.sl [] true,⟨h.cells,h.shut,m,p⟩,.wr):=fun m p r=>by
    unfold mR;rw[el];simp[lQ]
   refine al [0,2,4] fun F=>?_
   simp only[ak]
   intro f0 f2 f4
   simp[a8] at f0 f2 f4
   repeat' (first
    | refine ax ?_
    | ((fail_if_success (refine aQ ?_));(fail_if_success (refine aR ?_));refine aL ?_)
    | ((first|(refine az cz ?_;simp(disch:=omega) [aS,ap,f0,f2,f4];(try(refine⟨by first|decide|rfl,?_⟩)))|(refine aK ?_;simp(disch:=omega) [aS,ap,f0,f2,f4]));(try(refine al [0,2,4] ?_;intro F;simp only[ak];intro U aa ad;simp(disch:=omega) [aS,ap,f0,f2,f4] at U aa ad;clear f0 f2 f4;have f0:=U;have f2:=aa;have f4:=ad;clear U aa ad)))
    | (refine aJ _ (by simp(disch:=omega) [aS,ap,f0,f2,f4];rfl) (fun I=>?_) (fun I=>?_)<;>first|(exfalso;simp(disch:=omega) [aS,ap] at I;done)|(exfalso;simp at I;omega)|(simp at I))
    | ((first|refine aH ?_|refine aN ?_);simp(disch:=omega) [aS,ap,f0,f2,f4]))
   refine aH ?_
   simp[hT,f2]
   exact ⟨(Kept.yw h).bump _ (by omega),.inl ⟨by simp,rfl⟩⟩
 · have ap:∀m p r,mR r 1 4 ⟨h.cells,h.shut,m,p⟩ (.sl [] true) (.ref q 0 n o.length)=some (.ref r 0 n n,⟨aG h.cells r (some (cm (o.take n))),h.shut,m,p⟩,.wr):=fun m p r=>Tr cD aC (by omega) (by omega)
   have hle:(o.take n).length=n:=by rw[List.length_take];omega
   refine al [0,2,4] fun F=>?_
   simp only[ak]
   intro f0 f2 f4
   simp[a8] at f0 f2 f4
   repeat' (first
    | refine ax ?_
    | ((fail_if_success (refine aQ ?_));(fail_if_success (refine aR ?_));refine aL ?_)
    | ((first|(refine az cz ?_;simp(disch:=omega) [aS,ap,f0,f2,f4];(try(refine⟨by first|decide|rfl,?_⟩)))|(refine aK ?_;simp(disch:=omega) [aS,ap,f0,f2,f4]));(try(refine al [0,2,4] ?_;intro F;simp only[ak];intro U aa ad;simp(disch:=omega) [aS,ap,f0,f2,f4] at U aa ad;clear f0 f2 f4;have f0:=U;have f2:=aa;have f4:=ad;clear U aa ad)))
    | (refine aJ _ (by simp(disch:=omega) [aS,ap,f0,f2,f4];rfl) (fun I=>?_) (fun I=>?_)<;>first|(exfalso;simp(disch:=omega) [aS,ap] at I;done)|(exfalso;simp at I;omega)|(simp at I))
    | ((first|refine aH ?_|refine aN ?_);simp(disch:=omega) [aS,ap,f0,f2,f4]))
   refine aH ?_
   simp[hT,f2]
   exact ⟨(Kept.yw h).new _ _ (by omega) (by omega),.inr ⟨_,by rw[hle],by omega,⟨by simp only[aG,if_true],cG _,by show h.next+1+2+2<h.next+1+2+4;omega⟩⟩⟩
theorem Own.trans {a b c:aF} {v:J} {o:List Nat} (k:Kept a b) (x:Own b c v o):Own a c v o:=
 ⟨k.trans x.kept,x.val.imp id fun⟨r,ae,h2,aO⟩=>⟨r,ae,Nat.le_trans k.next h2,aO⟩⟩
theorem fy.kept {h ay:aF} {q:Nat} {o:List Nat} (V:fy h q o) (k:Kept h ay):fy ay q o:=⟨by rw[k.cells q V.fx];exact V.cells,by rw[k.shut];exact V.bD,Nat.lt_of_lt_of_le V.fx k.next⟩
theorem CD (Y:List dm) (h:aF) (cG:∀j,h.shut j=false) {q:Nat} {o:List Nat} (V:fy h q o) (aP:Small o) (aS:0<o.length) (a6:o.length<=1000000000):
 ∃v ay,fv G (bk Tryz.prog) h9 Y (.fn 98) [.ref q 0 o.length o.length] h=some (v,ay)/\Own h ay v (ai (val o)):=by
 refine k3 BA ?_
 have dC:=lq aS
 unfold i98
 refine al [0,2,3,15] fun F=>?_
 simp only[ak]
 intro f0 f2 f3 f15
 simp[a8] at f0 f2 f3 f15
 repeat' (first
  | refine ax ?_
  | ((fail_if_success (refine aQ ?_));(fail_if_success (refine aR ?_));refine aL ?_)
  | ((first|(refine az cz ?_;simp(disch:=omega) [f0,f2,f3,f15];(try(refine⟨by first|decide|rfl,?_⟩)))|(refine aK ?_;simp(disch:=omega) [f0,f2,f3,f15]));(try(refine al [0,2,3,15] ?_;intro F;simp only[ak];intro U aa af bE;simp(disch:=omega) [f0,f2,f3,f15] at U aa af bE;clear f0 f2 f3 f15;have f0:=U;have f2:=aa;have f3:=af;have f15:=bE;clear U aa af bE)))
  | (refine aJ _ (by simp(disch:=omega) [f0,f2,f3,f15];rfl) (fun I=>?_) (fun I=>?_)<;>first|(exfalso;simp(disch:=omega) at I;done)|(exfalso;simp at I;omega)|(simp at I))
  | ((first|refine aH ?_|refine aN ?_);simp(disch:=omega) [f0,f2,f3,f15]))
 refine na (fun m s=>m<=o.length/\(∀i,m<=i->a5 o i=0)/\Kept h s.h/\s.F 3=bp m) (fun s=>∃m,m<=o.length/\(∀i,m<=i->a5 o i=0)/\(m=0\/a5 o (m - 1)≠0)/\Kept h s.h/\s.F 3=bp m) (fun _=>False) o.length ?_ ?_ ?_ (fun _ _ h=>h.elim)
 · exact ⟨Nat.le_refl _,fun i an=>rf an,(Kept.yw h).bump _ (by omega),by first|rfl|exact f3⟩
 · rintro m s aI ⟨hm,aV,K,eS⟩
   replace f0:=(aI 0 rfl).trans f0
   clear f3
   have f3:=eS
   have cD:=(V.kept K).cells
   refine al [0,3,15] ?_
   intro F
   simp only[ak]
   intro U af bE
   try simp[aS,f0,f3] at U af bE
   clear f0 f3
   have f0:=U
   have f3:=af
   have f15:=bE
   clear U af bE
   cases m with
   | zero=>
     repeat' (first
      | refine ax ?_
      | ((fail_if_success (refine aQ ?_));(fail_if_success (refine aR ?_));refine aL ?_)
      | ((first|(refine az cz ?_;simp(disch:=omega) [f0,f3,f15];(try(refine⟨by first|decide|rfl,?_⟩)))|(refine aK ?_;simp(disch:=omega) [f0,f3,f15]));(try(refine al [0,3,15] ?_;intro F;simp only[ak];intro U af bE;simp(disch:=omega) [f0,f3,f15] at U af bE;clear f0 f3 f15;have f0:=U;have f3:=af;have f15:=bE;clear U af bE)))
      | (refine aJ _ (by simp(disch:=omega) [f0,f3,f15];rfl) (fun I=>?_) (fun I=>?_)<;>first|(exfalso;simp(disch:=omega) at I;done)|(exfalso;simp at I;omega)|(simp at I))
      | ((first|refine aH ?_|refine aN ?_);simp(disch:=omega) [f0,f3,f15]))
     exact ⟨0,by omega,aV,.inl rfl,K.bump _ (by omega),by first|rfl|exact f3⟩
   | succ m=>
     have go:=kP (show m<o.length by omega)
     have oI:m<o.length:=by omega
     have hw:IntKind.i64.wrap (Z (m+1) - Z 1)=Z m:=by rw[eh (by omega) (by omega)];rfl
     by_cases av:a5 o m=0
     · skip
       repeat' (first
        | refine ax ?_
        | ((fail_if_success (refine aQ ?_));(fail_if_success (refine aR ?_));refine aL ?_)
        | ((first|(refine az cz ?_;simp(disch:=omega) [cD,dC,go,oI,hw,av,f0,f3,f15];(try(refine⟨by first|decide|rfl,?_⟩)))|(refine aK ?_;simp(disch:=omega) [cD,dC,go,oI,hw,av,f0,f3,f15]));(try(refine al [0,3,15] ?_;intro F;simp only[ak];intro U af bE;simp(disch:=omega) [cD,dC,go,oI,hw,av,f0,f3,f15] at U af bE;clear f0 f3 f15;have f0:=U;have f3:=af;have f15:=bE;clear U af bE)))
        | (refine aJ _ (by simp(disch:=omega) [cD,dC,go,oI,hw,av,f0,f3,f15];rfl) (fun I=>?_) (fun I=>?_)<;>first|(exfalso;simp(disch:=omega) [cD,dC,go,oI,hw,av] at I;done)|(exfalso;simp at I;omega)|(simp at I))
        | ((first|refine aH ?_|refine aN ?_);simp(disch:=omega) [cD,dC,go,oI,hw,av,f0,f3,f15]))
       refine⟨m,by omega,by omega,fun i an=>?_,K.bump _ (by omega),by first|rfl|exact f3⟩
       by_cases e:i=m
       · subst e;exact av
       · exact aV i (by omega)
     · skip
       repeat' (first
        | refine ax ?_
        | ((fail_if_success (refine aQ ?_));(fail_if_success (refine aR ?_));refine aL ?_)
        | ((first|(refine az cz ?_;simp(disch:=omega) [cD,dC,go,oI,hw,av,f0,f3,f15];(try(refine⟨by first|decide|rfl,?_⟩)))|(refine aK ?_;simp(disch:=omega) [cD,dC,go,oI,hw,av,f0,f3,f15]));(try(refine al [0,3,15] ?_;intro F;simp only[ak];intro U af bE;simp(disch:=omega) [cD,dC,go,oI,hw,av,f0,f3,f15] at U af bE;clear f0 f3 f15;have f0:=U;have f3:=af;have f15:=bE;clear U af bE)))
        | (refine aJ _ (by simp(disch:=omega) [cD,dC,go,oI,hw,av,f0,f3,f15];rfl) (fun I=>?_) (fun I=>?_)<;>first|(exfalso;simp(disch:=omega) [cD,dC,go,oI,hw,av] at I;done)|(exfalso;simp at I;omega)|(simp at I))
        | ((first|refine aH ?_|refine aN ?_);simp(disch:=omega) [cD,dC,go,oI,hw,av,f0,f3,f15]))
       exact ⟨m+1,hm,aV,.inr av,K.bump _ (by omega),by first|rfl|exact f3⟩
 · rintro s aI ⟨m,hm,aV,k2,K,eS⟩
   replace f0:=(aI 0 rfl).trans f0
   clear f3
   have f3:=eS
   have a':=BI aP hm aV k2
   obtain⟨v,ay,aj,own⟩:=Ts Y ⟨s.h.cells,s.h.shut,s.h.next+5,s.h.bu⟩ (fun j=>by show s.h.shut j=false;rw[K.shut];exact cG j) ((V.kept K).bump (s.h.next+5) s.h.bu (by omega)) hm aS a6
   rw[a'] at own
   refine al [0,2,3] ?_
   intro F
   simp only[ak]
   intro U aa af
   try simp[aS,f0,f3] at U aa af
   clear f0 f3
   have f0:=U
   have f2:=aa
   have f3:=af
   clear U aa af
   repeat' (first
    | refine ax ?_
    | ((fail_if_success (refine aQ ?_));(fail_if_success (refine aR ?_));refine aL ?_)
    | ((first|(refine az cz ?_;simp(disch:=omega) [aj,hm,f0,f2,f3];(try(refine⟨by first|decide|rfl,?_⟩)))|(refine aK ?_;simp(disch:=omega) [aj,hm,f0,f2,f3]));(try(refine al [0,2,3] ?_;intro F;simp only[ak];intro U aa af;simp(disch:=omega) [aj,hm,f0,f2,f3] at U aa af;clear f0 f2 f3;have f0:=U;have f2:=aa;have f3:=af;clear U aa af)))
    | (refine aJ _ (by simp(disch:=omega) [aj,hm,f0,f2,f3];rfl) (fun I=>?_) (fun I=>?_)<;>first|(exfalso;simp(disch:=omega) [aj,hm] at I;done)|(exfalso;simp at I;omega)|(simp at I))
    | ((first|refine aH ?_|refine aN ?_);simp(disch:=omega) [aj,hm,f0,f2,f3]))
   refine aH ?_
   simp[hT,f2]
   exact Own.trans (K.bump _ (by omega)) own
theorem JI {h g:aF} (K:Kept h g) {q:Nat} (bo:h.next<=q) (v:Option (List J)) (n:Nat) (p:Nat->Option fu) (aC:g.next<=n) (bc:p=g.bu:=by rfl):Kept h ⟨aG g.cells q v,g.shut,n,p⟩:=
 ⟨Nat.le_trans K.next aC,fun j bb=>by
   have:j≠q:=by omega
   simp only[aG,if_neg this];exact K.cells j bb,K.shut,by rw[bc];exact K.bu⟩
def JJ (h:aF) (a r w L i:Nat) (s:bg):Prop:=(∃q,h.next<=q/\∃o c,o.length=i/\Small o/\c<2^r/\val o+aE i*c=a%aE i*2^r/\s.F 5= .ref q 0 (w+i) (w+L+1)/\s.F 7=b2 c/\Row s.h q (List.replicate w 0++o) (w+L+1))/\Kept h s.h
theorem JK (Y:List dm) (h:aF) (cG:∀j,h.shut j=false) {a n:Nat} {e:Bool} (ml:a≠0) (cZ:(ai a).length<=100000000) (aC:n<=100000000):
 ∃v ay,fv G (bk Tryz.prog) h9 Y (.fn 93) [cH (ai a) e,bp n] h=some (v,ay)/\Own h ay v (ai (a*2^n)):=by
 refine k3 Bz ?_
 have bF:=dW a
 have cp:ai a≠ []:=fun h=>ml (g3.1 h)
 obtain⟨w,hw⟩:∃w,w=n/32:=⟨_,rfl⟩
 obtain⟨r,bf⟩:∃r,r=n%32:=⟨_,rfl⟩
 have pP:r<32:=by omega
 have sL:aE w*(a*2^r)=a*2^n:=by
  rw[ll,Nat.mul_left_comm,<-Nat.pow_add,show 32*w+r=n by omega]
 have a9:2^r<=2147483648:=Nat.pow_le_pow_right (n:=2) (by decide) (show r<=31 by omega)
 obtain⟨L,a_⟩:∃L,L=(ai a).length:=⟨_,rfl⟩
 have aU:a<aE L:=c8.1 (by omega)
 have nz:0<L:=by rw[a_];exact lk.2 ml
 unfold i93
 have lp:Z (w+L+1)*4<=140737488355328:=by simp only[Z];omega
 have mB:w<=w+L+1:=by omega
 have Rb:n<9223372036854775808:=by omega
 refine al [0,1,4,5,6,7,9,12,24,25,26,27] fun F=>?_
 simp only[ak]
 intro f0 f1 f4 f5 f6 f7 f9 f12 f24 f25 f26 f27
 simp[a8] at f0 f1 f4 f5 f6 f7 f9 f12 f24 f25 f26 f27
 repeat' (first
  | refine ax ?_
  | ((fail_if_success (refine aQ ?_));(fail_if_success (refine aR ?_));refine aL ?_)
  | ((first|(refine az cz ?_;simp(disch:=omega) [<-hw,<-bf,<-a_,cp,lp,mB,nz,f0,f1,f4,f5,f6,f7,f9,f12,f24,f25,f26,f27];(try(refine⟨by first|decide|rfl,?_⟩)))|(refine aK ?_;simp(disch:=omega) [<-hw,<-bf,<-a_,cp,lp,mB,nz,f0,f1,f4,f5,f6,f7,f9,f12,f24,f25,f26,f27]));(try(refine al [0,1,4,5,6,7,9,12,24,25,26,27] ?_;intro F;simp only[ak];intro U ab ad ah ag ar aA aX cL ch c_ c5;simp(disch:=omega) [<-hw,<-bf,<-a_,cp,lp,mB,nz,f0,f1,f4,f5,f6,f7,f9,f12,f24,f25,f26,f27] at U ab ad ah ag ar aA aX cL ch c_ c5;clear f0 f1 f4 f5 f6 f7 f9 f12 f24 f25 f26 f27;have f0:=U;have f1:=ab;have f4:=ad;have f5:=ah;have f6:=ag;have f7:=ar;have f9:=aA;have f12:=aX;have f24:=cL;have f25:=ch;have f26:=c_;have f27:=c5;clear U ab ad ah ag ar aA aX cL ch c_ c5)))
  | (refine aJ _ (by simp(disch:=omega) [<-hw,<-bf,<-a_,cp,lp,mB,nz,f0,f1,f4,f5,f6,f7,f9,f12,f24,f25,f26,f27];rfl) (fun I=>?_) (fun I=>?_)<;>first|(exfalso;simp(disch:=omega) [<-hw,<-bf,<-a_,cp,lp,mB,nz] at I;done)|(exfalso;simp at I;omega)|(simp at I))
  | ((first|refine aH ?_|refine aN ?_);simp(disch:=omega) [<-hw,<-bf,<-a_,cp,lp,mB,nz,f0,f1,f4,f5,f6,f7,f9,f12,f24,f25,f26,f27]))
 refine o8 L (fun i s=>JJ h a r w L i s/\s.F 26=bp i) (JJ h a r w L L) (fun _=>False) ?_ ?_ ?_ (fun _ _ h=>h.elim)
 · refine⟨⟨⟨_,by omega,[],0,rfl,Small.nil,Nat.pow_pos (by decide),by simp[val,fC,Nat.mod_one],f5,f7,?_,cG _,?_,?_⟩,(Kept.yw h).new _ _ (by omega) (by omega)⟩,f26⟩
   · rw[List.append_nil,IF mB,<-IE];simp[aG]
   · show h.next+1+3+8<h.next+1+3+10+3+1+3;omega
   · simp;omega
 · rintro i s an aI ⟨⟨⟨q,ov,o,c,a4,aP,qy,aY,ev,h4,R⟩,K⟩,wV⟩
   replace f0:=(aI 0 rfl).trans f0;replace f6:=(aI 6 rfl).trans f6;replace f24:=(aI 24 rfl).trans f24;replace f25:=(aI 25 rfl).trans f25
   clear f5 f7 f26
   have f5:=ev
   have f7:=h4
   have f26:=wV
   refine al [0,5,6,7,9,24,25,26,27] ?_
   intro F
   simp only[ak]
   intro U ah ag ar aA cL ch c_ c5
   try simp[aS,f0,f5,f6,f7,f24,f25,f26] at U ah ag ar aA cL ch c_ c5
   clear f0 f5 f6 f7 f24 f25 f26
   have f0:=U
   have f5:=ah
   have f6:=ag
   have f7:=ar
   have f9:=aA
   have f24:=cL
   have f25:=ch
   have f26:=c_
   have f27:=c5
   clear U ah ag ar aA cL ch c_ c5
   by_cases a2:i<L
   · have av:=bF.a5 i
     have ew:=(k4 (show i<(ai a).length by omega)).symm
     have st:=II aY
     rw[<-gv] at st
     have eD:=IG (x:=a5 (ai a) i) (by omega) qy
     have ef:=IH (x:=a5 (ai a) i) (by omega) qy
     have hlen:(List.replicate w 0++o).length=w+i:=by simp[a4]
     have ap:=R.app (by omega) (by omega) (a5 (ai a) i*2^r%4294967296+c)
     rw[hlen] at ap
     have bz:min r 32=r:=by omega
     have b4:min r 64=r:=by omega
     have hr:a5 (ai a) i*2^r/4294967296<2^r:=by
      rw[Nat.div_lt_iff_lt_mul (by decide),Nat.mul_comm]
      exact Nat.mul_lt_mul_of_pos_left av (Nat.pow_pos (by decide))
     have nA:a5 (ai a) i*2^r<18446744073709551616:=Nat.lt_of_le_of_lt (Nat.mul_le_mul (show a5 (ai a) i<=4294967295 by omega) a9) (by decide)
     have mm:a5 (ai a) i*2^r/4294967296<4294967296:=by omega
     have B6:=fun m p hm=>R.put (m:=m) (p:=p) (by omega) (a5 (ai a) i*2^r%4294967296+c) hm
     repeat' (first
      | refine ax ?_
      | ((fail_if_success (refine aQ ?_));(fail_if_success (refine aR ?_));refine aL ?_)
      | ((first|(refine az cz ?_;simp(disch:=omega) [a2,ew,eD,ef,ap,bz,b4,nA,mm,<-a_,f0,f5,f6,f7,f9,f24,f25,f26,f27];(try(refine⟨by first|decide|rfl,?_⟩)))|(refine aK ?_;simp(disch:=omega) [a2,ew,eD,ef,ap,bz,b4,nA,mm,<-a_,f0,f5,f6,f7,f9,f24,f25,f26,f27]));(try(refine al [0,5,6,7,9,24,25,26,27] ?_;intro F;simp only[ak];intro U ah ag ar aA cL ch c_ c5;simp(disch:=omega) [a2,ew,eD,ef,ap,bz,b4,nA,mm,<-a_,f0,f5,f6,f7,f9,f24,f25,f26,f27] at U ah ag ar aA cL ch c_ c5;clear f0 f5 f6 f7 f9 f24 f25 f26 f27;have f0:=U;have f5:=ah;have f6:=ag;have f7:=ar;have f9:=aA;have f24:=cL;have f25:=ch;have f26:=c_;have f27:=c5;clear U ah ag ar aA cL ch c_ c5)))
      | (refine aJ _ (by simp(disch:=omega) [a2,ew,eD,ef,ap,bz,b4,nA,mm,<-a_,f0,f5,f6,f7,f9,f24,f25,f26,f27];rfl) (fun I=>?_) (fun I=>?_)<;>first|(exfalso;simp(disch:=omega) [a2,ew,eD,ef,ap,bz,b4,nA,mm,<-a_] at I;done)|(exfalso;simp at I;omega)|(simp at I))
      | ((first|refine aH ?_|refine aN ?_);simp(disch:=omega) [a2,ew,eD,ef,ap,bz,b4,nA,mm,<-a_,f0,f5,f6,f7,f9,f24,f25,f26,f27]))
     refine⟨⟨q,ov,o++ [a5 (ai a) i*2^r%4294967296+c],_,by simp[a4],o_.2 ⟨aP,mi.2 ⟨ef,Small.nil⟩⟩,hr,?_,f5,f7,?_⟩,JI K ov _ _ _ (by omega)⟩
     · rw[mU,a4];simpa[val] using st
     · rw[<-List.append_assoc];refine B6 _ _ ?_;omega
   · have rl:i=L:=by omega
     subst rl
     repeat' (first
      | refine ax ?_
      | ((fail_if_success (refine aQ ?_));(fail_if_success (refine aR ?_));refine aL ?_)
      | ((first|(refine az cz ?_;simp(disch:=omega) [a2,f0,f5,f6,f7,f9,f24,f25,f26,f27];(try(refine⟨by first|decide|rfl,?_⟩)))|(refine aK ?_;simp(disch:=omega) [a2,f0,f5,f6,f7,f9,f24,f25,f26,f27]));(try(refine al [0,5,6,7,9,24,25,26,27] ?_;intro F;simp only[ak];intro U ah ag ar aA cL ch c_ c5;simp(disch:=omega) [a2,f0,f5,f6,f7,f9,f24,f25,f26,f27] at U ah ag ar aA cL ch c_ c5;clear f0 f5 f6 f7 f9 f24 f25 f26 f27;have f0:=U;have f5:=ah;have f6:=ag;have f7:=ar;have f9:=aA;have f24:=cL;have f25:=ch;have f26:=c_;have f27:=c5;clear U ah ag ar aA cL ch c_ c5)))
      | (refine aJ _ (by simp(disch:=omega) [a2,f0,f5,f6,f7,f9,f24,f25,f26,f27];rfl) (fun I=>?_) (fun I=>?_)<;>first|(exfalso;simp(disch:=omega) [a2] at I;done)|(exfalso;simp at I;omega)|(simp at I))
      | ((first|refine aH ?_|refine aN ?_);simp(disch:=omega) [a2,f0,f5,f6,f7,f9,f24,f25,f26,f27]))
     exact ⟨⟨q,ov,o,c,a4,aP,qy,aY,f5,f7,R.bump _ _ (by omega)⟩,Kept.bump K _ (by omega)⟩
 · rintro s aI ⟨⟨q,ov,o,c,a4,aP,qy,aY,ev,h4,R⟩,K⟩
   clear f5 f7 f26
   have f5:=ev
   have f7:=h4
   have hlen:(List.replicate w 0++o).length=w+L:=by simp[a4]
   have mm:c<4294967296:=by omega
   have ap:=R.app (by omega) (by omega) c
   rw[hlen] at ap
   have oZ:Small ((List.replicate w 0++o)++ [c]):=o_.2 ⟨o_.2 ⟨qs w,aP⟩,mi.2 ⟨mm,Small.nil⟩⟩
   have hb:((List.replicate w 0++o)++ [c]).length=w+L+1:=by simp[a4];omega
   rw[Nat.mod_eq_of_lt aU] at aY
   have mq:val ((List.replicate w 0++o)++ [c])=a*2^n:=by
    rw[<-sL,List.append_assoc,BP,mU,a4]
    simp only[val,Nat.mul_zero,Nat.add_zero];rw[aY]
   rw[ID hb] at ap
   generalize (List.replicate w 0++o)++ [c]=xs at*
   rw[show (xs.map fun x=>J.int .u32 (Z x))=cm xs from rfl] at ap
   have Tt:Kept h ⟨aG s.h.cells q (some (cm xs)),s.h.shut,s.h.next+6,s.h.bu⟩:=JI K ov _ _ _ (by omega)
   obtain⟨v,ay,aj,own⟩:=CD Y ⟨aG s.h.cells q (some (cm xs)),s.h.shut,s.h.next+6,s.h.bu⟩ (fun j=>by show s.h.shut j=false;rw[K.shut];exact cG j) (q:=q) (o:=xs) ⟨by simp only[aG,if_true],R.bD,by show q<s.h.next+6;have:=R.fx;omega⟩ oZ (by omega) (by omega)
   rw[mq,hb] at*
   refine al [4,5,7] ?_
   intro F
   simp only[ak]
   intro ad ah ar
   try simp[aS,f5,f7] at ad ah ar
   clear f5 f7
   have f4:=ad
   have f5:=ah
   have f7:=ar
   clear ad ah ar
   repeat' (first
    | refine ax ?_
    | ((fail_if_success (refine aQ ?_));(fail_if_success (refine aR ?_));refine aL ?_)
    | ((first|(refine az cz ?_;simp(disch:=omega) [ap,aj,f4,f5,f7];(try(refine⟨by first|decide|rfl,?_⟩)))|(refine aK ?_;simp(disch:=omega) [ap,aj,f4,f5,f7]));(try(refine al [4,5,7] ?_;intro F;simp only[ak];intro ad ah ar;simp(disch:=omega) [ap,aj,f4,f5,f7] at ad ah ar;clear f4 f5 f7;have f4:=ad;have f5:=ah;have f7:=ar;clear ad ah ar)))
    | (refine aJ _ (by simp(disch:=omega) [ap,aj,f4,f5,f7];rfl) (fun I=>?_) (fun I=>?_)<;>first|(exfalso;simp(disch:=omega) [ap,aj] at I;done)|(exfalso;simp at I;omega)|(simp at I))
    | ((first|refine aH ?_|refine aN ?_);simp(disch:=omega) [ap,aj,f4,f5,f7]))
   refine aH ?_
   simp[hT,f4]
   exact Own.trans Tt own
end
end
section
set_option maxHeartbeats 8000000
open Go Go.Eng Go.RowKit
theorem JL {mf V hj Q P K B x out y g xa c c' b gF p pl:Nat} (ae:hj+P*x=V+P*out) (h2:out+pl+b=x+B*gF) (aO:p=B*c'+pl) (a2:p=g*y+c) (cf:V+Q*(g*xa)=mf+P*(c+b)) (dS:P=Q*K):
 hj+Q*(g*(xa+K*y))=mf+P*B*(c'+gF):=by
 have e:P*(out+pl+b)=P*(x+B*gF):=by rw[h2]
 have aq:P*(B*c'+pl)=P*(g*y+c):=by rw[<-aO,a2]
 subst dS
 grind
theorem JM {mf V hj Q P K B x out y xa c c':Nat} (ae:hj+P*x=V+P*out) (h2:x+y+c=B*c'+out) (cf:V+P*c=mf+Q*xa) (dS:P=Q*K):
 hj+P*B*c'=mf+Q*(xa+K*y):=by
 have e:P*(x+y+c)=P*(B*c'+out):=by rw[h2]
 subst dS
 grind
structure mE (id:Nat) (h ay:aF):Prop where
 next:h.next<=ay.next
 cells:∀j,j<h.next->j≠id->ay.cells j=h.cells j
 shut:ay.shut=h.shut
 bu:ay.bu=h.bu
theorem mE.bump {id:Nat} {h g:aF} (K:mE id h g) (n:Nat) (aC:g.next<=n):mE id h ⟨g.cells,g.shut,n,g.bu⟩:=⟨Nat.le_trans K.next aC,K.cells,K.shut,K.bu⟩
theorem mE.put {id:Nat} {h g:aF} (K:mE id h g) (v:Option (List J)) (n:Nat) (aC:g.next<=n):mE id h ⟨aG g.cells id v,g.shut,n,g.bu⟩:=
 ⟨Nat.le_trans K.next aC,fun j bb cp=>by simp only[aG,if_neg cp];exact K.cells j bb cp,K.shut,K.bu⟩
theorem mE.refl (id:Nat) (h:aF):mE id h h:=⟨Nat.le_refl _,fun _ _ _=>rfl,rfl,rfl⟩
end
section
set_option maxHeartbeats 8000000
open Go Go.Eng Go.RowKit
attribute [local simp] bH.m bH.o bH.n bH.g hy fh dG dr dJ evalOp.eq_1 evalOp.eq_2 evalOp.eq_3 evalOp.eq_4 evalOp.eq_5 evalOp.eq_6 evalOp.eq_7 evalOp.eq_8 evalOp.eq_9 evalOp.eq_10 evalOp.eq_11 evalOp.eq_12 evalOp.eq_13 evalOp.eq_14 evalOp.eq_15 evalOp.eq_16 evalOp.eq_17 evalOp.eq_18 evalOp.eq_19 evalOp.eq_20 evalOp.eq_21 evalOp.eq_22 evalOp.eq_23 evalOp.eq_24 evalOp.eq_25 evalOp.eq_27 evalOp.eq_28 evalOp.eq_29 kl bn.cu dq aG aF.new a8 J.cells J.dp J.e7 J.ft il iq im ir iv iu jK jL jM gY gZ cut partOf bound elems jO jP jQ jR jS jT jU jV jW jX jY jZ h1 j0 j1 j2 j3 j4 j5 j6 j7 j8 j9 j_ j' ka kb kc kd ke kf kg kh ki kj kk ff e8 e1 gi iw hA aF.close aF.set h3 km kn ko jN hB gD gq gJ gr hX gu gK hY hZ h0 gf gg gh gd ix bI hU iy hV iz iA fY iB fw iC iD iE gT jJ iF iG iH iI iJ iK iL iM iN iO iP iQ iR iS iT iU iV iW iX hf iY iZ i_ i' ja jb jc jd je jf jg jh ji jj jk
attribute [local simp high] jG jH jI jl jm jn jo jq jr js jt ju jv jw jx jy jz jA jB jC jD jE jF
attribute [local simp] aS List.getElem?_cons_zero List.getElem?_cons_succ fa eh gl Nat.mod_eq_of_lt kH kI kJ kK gL kL kM kN
section
attribute [local irreducible] cQ
attribute [local simp] ek eL du JG JH w_ w'
def JN (h:aF) (id off n Yv g:Nat) (o:List Nat) (i:Nat) (s:bg):Prop:=∃o' c b,o'.length=o.length/\Small o'/\(∀j,j<off\/off+n<j->a5 o' j=a5 o j)/\c<4294967296/\b<=1/\(n<i->c=0)/\val o'+aE off*(g*(Yv%aE i))=val o+aE off*aE i*(c+b)/\
 s.F 7=e3 c/\s.F 8=b2 b/\fy s.h id o'/\mE id h s.h
theorem Tu (Y:List dm) (h:aF) {id ry off n cap Yv g:Nat} {o:List Nat} (V:fy h id o) (W:fy h ry (ai Yv)) (cp:ry≠id) (aC:(ai Yv).length=n) (od:0<n) (fD:Small o) (hh:off+n+1<=o.length) (a6:o.length<=1000000000) (bq:g<4294967296):
 ∃v ay,fv G (bk Tryz.prog) h9 Y (.fn 142) [.ref id off (n+1) cap,.ref ry 0 n n,e3 g] h=some (v,ay)/\
  ∃o' b,v= .bool (decide (0<b))/\o'.length=o.length/\Small o'/\(∀j,j<off\/off+n<j->a5 o' j=a5 o j)/\b<=1/\val o'+aE off*(g*Yv)=val o+aE off*aE (n+1)*b/\fy ay id o'/\mE id h ay:=by
 refine k3 Hi ?_
 have bj:=dW Yv
 have xb:Yv<aE n:=c8.1 (by omega)
 have hw:IntKind.i64.wrap (Z n+Z 1)=Z (n+1):=fa (by omega)
 have xc:∀i,aE off*aE (i+1)=aE off*aE i*4294967296:=fun i=>by rw[eQ,Nat.mul_assoc]
 unfold i142
 refine al [0,1,2,6,7,8,9,10,13,14,15,20] fun F=>?_
 simp only[ak]
 intro f0 f1 f2 f6 f7 f8 f9 f10 f13 f14 f15 f20
 simp[a8] at f0 f1 f2 f6 f7 f8 f9 f10 f13 f14 f15 f20
 repeat' (first
  | refine ax ?_
  | ((fail_if_success (refine aQ ?_));(fail_if_success (refine aR ?_));refine aL ?_)
  | ((first|(refine az cz ?_;simp(disch:=omega) [hw,f0,f1,f2,f6,f7,f8,f9,f10,f13,f14,f15,f20];(try(refine⟨by first|decide|rfl,?_⟩)))|(refine aK ?_;simp(disch:=omega) [hw,f0,f1,f2,f6,f7,f8,f9,f10,f13,f14,f15,f20]));(try(refine al [0,1,2,6,7,8,9,10,13,14,15,20] ?_;intro F;simp only[ak];intro U ab aa ag ar ao aA aB aZ bs bE bO;simp(disch:=omega) [hw,f0,f1,f2,f6,f7,f8,f9,f10,f13,f14,f15,f20] at U ab aa ag ar ao aA aB aZ bs bE bO;clear f0 f1 f2 f6 f7 f8 f9 f10 f13 f14 f15 f20;have f0:=U;have f1:=ab;have f2:=aa;have f6:=ag;have f7:=ar;have f8:=ao;have f9:=aA;have f10:=aB;have f13:=aZ;have f14:=bs;have f15:=bE;have f20:=bO;clear U ab aa ag ar ao aA aB aZ bs bE bO)))
  | (refine aJ _ (by simp(disch:=omega) [hw,f0,f1,f2,f6,f7,f8,f9,f10,f13,f14,f15,f20];rfl) (fun I=>?_) (fun I=>?_)<;>first|(exfalso;simp(disch:=omega) [hw] at I;done)|(exfalso;simp at I;omega)|(simp at I))
  | ((first|refine aH ?_|refine aN ?_);simp(disch:=omega) [hw,f0,f1,f2,f6,f7,f8,f9,f10,f13,f14,f15,f20]))
 refine o8 (n+1) (fun i s=>JN h id off n Yv g o i s/\s.F 14=bp i) (JN h id off n Yv g o (n+1)) (fun _=>False) ?_ ?_ ?_ (fun _ _ h=>h.elim)
 · exact ⟨⟨o,0,0,rfl,fD,fun _ _=>rfl,by decide,by decide,fun _=>rfl,by simp[fC,Nat.mod_one],f7,f8,V.bump _ _ (by omega),(mE.refl id h).bump _ (by omega)⟩,f14⟩
 · rintro i s an aI ⟨⟨o',c,b,ol,os,pW,h7,qE,CE,aY,h4,kp,hj,K⟩,dN⟩
   replace f0:=(aI 0 rfl).trans f0;replace f1:=(aI 1 rfl).trans f1;replace f2:=(aI 2 rfl).trans f2;replace f13:=(aI 13 rfl).trans f13
   clear f7 f8 f14
   have f7:=h4
   have f8:=kp
   have f14:=dN
   refine al [0,1,2,7,8,9,10,13,14,15,20] ?_
   intro F
   simp only[ak]
   intro U ab aa ar ao aA aB aZ bs bE bO
   try simp[aS,f0,f1,f2,f7,f8,f13,f14] at U ab aa ar ao aA aB aZ bs bE bO
   clear f0 f1 f2 f7 f8 f13 f14
   have f0:=U
   have f1:=ab
   have f2:=aa
   have f7:=ar
   have f8:=ao
   have f9:=aA
   have f10:=aB
   have f13:=aZ
   have f14:=bs
   have f15:=bE
   have f20:=bO
   clear U ab aa ar ao aA aB aZ bs bE bO
   by_cases a2:i<n+1
   · have av:=os.a5 (off+i)
     have go:=kP (show off+i<o'.length by omega)
     have sz:=lq (show 0<o'.length by omega)
     have cD:=hj.cells
     have dy:=hj.bD
     have eU:s.h.cells ry=some (cm (ai Yv)):=by rw[K.cells ry W.fx cp];exact W.cells
     have fN:=lq (show 0<(ai Yv).length by omega)
     by_cases cf:i<n
     · have JO:=bj.a5 i
       have nQ:=kP (show i<(ai Yv).length by omega)
       have xd:=gv Yv i
       generalize e4:a5 o' (off+i)=x at*
       generalize a5 (ai Yv) i=y at*
       obtain⟨p,bc⟩:∃p,p=g*y+c:=⟨_,rfl⟩
       have Z4:g*y<=4294967295*4294967295:=Nat.mul_le_mul (by omega) (by omega)
       have u0:g*y<18446744073709551616:=by omega
       have pM:p<18446744073709551616:=by omega
       have t:=BY (x:=x) (y:=p%4294967296) (c:=b) av (Nat.mod_lt _ (by decide)) qE
       have nm:(4294967296+x - p%4294967296 - b)%4294967296+p%4294967296+b=x+4294967296*(if x<p%4294967296+b then 1 else 0):=by split<;>omega
       have qi:(if x<p%4294967296+b then 1 else 0)<=1:=by split<;>omega
       have td:(4294967296+x - p%4294967296 - b)%4294967296<4294967296:=Nat.mod_lt _ (by decide)
       generalize (4294967296+x - p%4294967296 - b)%4294967296=out at*
       generalize (if x<p%4294967296+b then 1 else 0)=gF at*
       have st:=pU o' (off+i) out
       have gE:=nw out (show off+i<o'.length by omega)
       rw[e4,hg] at gE
       have fL:=JL gE nm (Nat.div_add_mod p 4294967296).symm bc aY rfl
       rw[xd,<-mT] at fL
       have mu:=bc.symm
       clear bc nm gE aY xd
       generalize u1:g*y=Z5 at*
       repeat' (first
        | refine ax ?_
        | ((fail_if_success (refine aQ ?_));(fail_if_success (refine aR ?_));refine aL ?_)
        | ((first|(refine az cz ?_;simp(disch:=omega) [a2,cf,cD,dy,eU,go,nQ,sz,fN,st,t,u1,mu,u0,pM,f0,f1,f2,f7,f8,f9,f10,f13,f14,f15,f20];(try(refine⟨by first|decide|rfl,?_⟩)))|(refine aK ?_;simp(disch:=omega) [a2,cf,cD,dy,eU,go,nQ,sz,fN,st,t,u1,mu,u0,pM,f0,f1,f2,f7,f8,f9,f10,f13,f14,f15,f20]));(try(refine al [0,1,2,7,8,9,10,13,14,15,20] ?_;intro F;simp only[ak];intro U ab aa ar ao aA aB aZ bs bE bO;simp(disch:=omega) [a2,cf,cD,dy,eU,go,nQ,sz,fN,st,t,u1,mu,u0,pM,f0,f1,f2,f7,f8,f9,f10,f13,f14,f15,f20] at U ab aa ar ao aA aB aZ bs bE bO;clear f0 f1 f2 f7 f8 f9 f10 f13 f14 f15 f20;have f0:=U;have f1:=ab;have f2:=aa;have f7:=ar;have f8:=ao;have f9:=aA;have f10:=aB;have f13:=aZ;have f14:=bs;have f15:=bE;have f20:=bO;clear U ab aa ar ao aA aB aZ bs bE bO)))
        | (refine aJ _ (by simp(disch:=omega) [a2,cf,cD,dy,eU,go,nQ,sz,fN,st,t,u1,mu,u0,pM,f0,f1,f2,f7,f8,f9,f10,f13,f14,f15,f20];rfl) (fun I=>?_) (fun I=>?_)<;>first|(exfalso;simp(disch:=omega) [a2,cf,cD,dy,eU,go,nQ,sz,fN,st,t,u1,mu,u0,pM] at I;done)|(exfalso;simp at I;omega)|(simp at I))
        | ((first|refine aH ?_|refine aN ?_);simp(disch:=omega) [a2,cf,cD,dy,eU,go,nQ,sz,fN,st,t,u1,mu,u0,pM,f0,f1,f2,f7,f8,f9,f10,f13,f14,f15,f20]))
       refine⟨o'.set (off+i) out,p/4294967296,gF,by rw[List.length_set];exact ol,nx os td,fun j bb=>?_,by omega,qi,fun de=>absurd de (by omega),by rw[xc i];exact fL,f7,f8,hj.put _ _ _ (by omega),K.put _ _ (by omega)⟩
       rw[ou _ _ (by omega),if_neg (by omega)]
       exact pW j bb
     · obtain rfl:i=n:=by omega
       generalize e4:a5 o' (off+i)=x at*
       have t:=BY (x:=x) (y:=c) (c:=b) av h7 qE
       have nm:(4294967296+x - c - b)%4294967296+c+b=x+4294967296*(if x<c+b then 1 else 0):=by split<;>omega
       have qi:(if x<c+b then 1 else 0)<=1:=by split<;>omega
       have td:(4294967296+x - c - b)%4294967296<4294967296:=Nat.mod_lt _ (by decide)
       generalize (4294967296+x - c - b)%4294967296=out at*
       generalize (if x<c+b then 1 else 0)=gF at*
       have st:=pU o' (off+i) out
       have gE:=nw out (show off+i<o'.length by omega)
       rw[e4,hg] at gE
       have fL:=JL (p:=c) (pl:=c) (c':=0) (y:=0) (g:=g) gE nm (by omega) (by omega) aY rfl
       rw[Nat.mul_zero,Nat.add_zero,Nat.mod_eq_of_lt xb] at fL
       have u2:c<18446744073709551616:=by omega
       have u3:c/4294967296=0:=Nat.div_eq_of_lt h7
       clear nm gE aY
       repeat' (first
        | refine ax ?_
        | ((fail_if_success (refine aQ ?_));(fail_if_success (refine aR ?_));refine aL ?_)
        | ((first|(refine az cz ?_;simp(disch:=omega) [a2,cD,dy,eU,go,sz,fN,st,t,u2,h7,u3,f0,f1,f2,f7,f8,f9,f10,f13,f14,f15,f20];(try(refine⟨by first|decide|rfl,?_⟩)))|(refine aK ?_;simp(disch:=omega) [a2,cD,dy,eU,go,sz,fN,st,t,u2,h7,u3,f0,f1,f2,f7,f8,f9,f10,f13,f14,f15,f20]));(try(refine al [0,1,2,7,8,9,10,13,14,15,20] ?_;intro F;simp only[ak];intro U ab aa ar ao aA aB aZ bs bE bO;simp(disch:=omega) [a2,cD,dy,eU,go,sz,fN,st,t,u2,h7,u3,f0,f1,f2,f7,f8,f9,f10,f13,f14,f15,f20] at U ab aa ar ao aA aB aZ bs bE bO;clear f0 f1 f2 f7 f8 f9 f10 f13 f14 f15 f20;have f0:=U;have f1:=ab;have f2:=aa;have f7:=ar;have f8:=ao;have f9:=aA;have f10:=aB;have f13:=aZ;have f14:=bs;have f15:=bE;have f20:=bO;clear U ab aa ar ao aA aB aZ bs bE bO)))
        | (refine aJ _ (by simp(disch:=omega) [a2,cD,dy,eU,go,sz,fN,st,t,u2,h7,u3,f0,f1,f2,f7,f8,f9,f10,f13,f14,f15,f20];rfl) (fun I=>?_) (fun I=>?_)<;>first|(exfalso;simp(disch:=omega) [a2,cD,dy,eU,go,sz,fN,st,t,u2,h7,u3] at I;done)|(exfalso;simp at I;omega)|(simp at I))
        | ((first|refine aH ?_|refine aN ?_);simp(disch:=omega) [a2,cD,dy,eU,go,sz,fN,st,t,u2,h7,u3,f0,f1,f2,f7,f8,f9,f10,f13,f14,f15,f20]))
       refine⟨o'.set (off+i) out,0,gF,by rw[List.length_set];exact ol,nx os td,fun j bb=>?_,by decide,qi,fun _=>rfl,by rw[Nat.mod_eq_of_lt (Nat.lt_of_lt_of_le xb (mS (by omega))),xc];exact fL,f7,f8,hj.put _ _ _ (by omega),K.put _ _ (by omega)⟩
       rw[ou _ _ (by omega),if_neg (by omega)]
       exact pW j bb
   · obtain rfl:i=n+1:=by omega
     repeat' (first
      | refine ax ?_
      | ((fail_if_success (refine aQ ?_));(fail_if_success (refine aR ?_));refine aL ?_)
      | ((first|(refine az cz ?_;simp(disch:=omega) [f0,f1,f2,f7,f8,f9,f10,f13,f14,f15,f20];(try(refine⟨by first|decide|rfl,?_⟩)))|(refine aK ?_;simp(disch:=omega) [f0,f1,f2,f7,f8,f9,f10,f13,f14,f15,f20]));(try(refine al [0,1,2,7,8,9,10,13,14,15,20] ?_;intro F;simp only[ak];intro U ab aa ar ao aA aB aZ bs bE bO;simp(disch:=omega) [f0,f1,f2,f7,f8,f9,f10,f13,f14,f15,f20] at U ab aa ar ao aA aB aZ bs bE bO;clear f0 f1 f2 f7 f8 f9 f10 f13 f14 f15 f20;have f0:=U;have f1:=ab;have f2:=aa;have f7:=ar;have f8:=ao;have f9:=aA;have f10:=aB;have f13:=aZ;have f14:=bs;have f15:=bE;have f20:=bO;clear U ab aa ar ao aA aB aZ bs bE bO)))
      | (refine aJ _ (by simp(disch:=omega) [f0,f1,f2,f7,f8,f9,f10,f13,f14,f15,f20];rfl) (fun I=>?_) (fun I=>?_)<;>first|(exfalso;simp(disch:=omega) at I;done)|(exfalso;simp at I;omega)|(simp at I))
      | ((first|refine aH ?_|refine aN ?_);simp(disch:=omega) [f0,f1,f2,f7,f8,f9,f10,f13,f14,f15,f20]))
     exact ⟨o',c,b,ol,os,pW,h7,qE,CE,aY,f7,f8,hj.bump _ _ (by omega),K.bump _ (by omega)⟩
 · rintro s aI ⟨o',c,b,ol,os,pW,h7,qE,CE,aY,h4,kp,hj,K⟩
   clear f7 f8 f14
   have f8:=kp
   have ia:=CE (by omega)
   rw[ia,Nat.zero_add,Nat.mod_eq_of_lt (Nat.lt_of_lt_of_le xb (mS (by omega)))] at aY
   refine al [6,8] ?_
   intro F
   simp only[ak]
   intro ag ao
   try simp[aS,f8] at ag ao
   clear f8
   have f6:=ag
   have f8:=ao
   clear ag ao
   repeat' (first
    | refine ax ?_
    | ((fail_if_success (refine aQ ?_));(fail_if_success (refine aR ?_));refine aL ?_)
    | ((first|(refine az cz ?_;simp(disch:=omega) [f6,f8];(try(refine⟨by first|decide|rfl,?_⟩)))|(refine aK ?_;simp(disch:=omega) [f6,f8]));(try(refine al [6,8] ?_;intro F;simp only[ak];intro ag ao;simp(disch:=omega) [f6,f8] at ag ao;clear f6 f8;have f6:=ag;have f8:=ao;clear ag ao)))
    | (refine aJ _ (by simp(disch:=omega) [f6,f8];rfl) (fun I=>?_) (fun I=>?_)<;>first|(exfalso;simp(disch:=omega) at I;done)|(exfalso;simp at I;omega)|(simp at I))
    | ((first|refine aH ?_|refine aN ?_);simp(disch:=omega) [f6,f8]))
   refine aH ?_
   exact ⟨trivial,F 6,rfl,o',b,f6,ol,os,pW,qE,aY,hj.bump _ _ (by omega),K.bump _ (by omega)⟩
def JP (h:aF) (id off n Yv:Nat) (o:List Nat) (i:Nat) (s:bg):Prop:=∃o' c,o'.length=o.length/\Small o'/\(∀j,j<off\/off+n<=j->a5 o' j=a5 o j)/\c<=1/\val o'+aE off*aE i*c=val o+aE off*(Yv%aE i)/\
 s.F 4=b2 c/\fy s.h id o'/\mE id h s.h
theorem Tv (Y:List dm) (h:aF) {id ry off n cap Yv:Nat} {o:List Nat} (V:fy h id o) (W:fy h ry (ai Yv)) (cp:ry≠id) (aC:(ai Yv).length=n) (od:0<n) (fD:Small o) (hh:off+n+1<=o.length) (a6:o.length<=1000000000):
 ∃v ay,fv G (bk Tryz.prog) h9 Y (.fn 143) [.ref id off (n+1) cap,.ref ry 0 n n] h=some (v,ay)/\
  ∃o' d,v= .cb []/\o'.length=o.length/\Small o'/\(∀j,j<off\/off+n<j->a5 o' j=a5 o j)/\val o'+aE off*aE (n+1)*d=val o+aE off*Yv/\fy ay id o'/\mE id h ay:=by
 refine k3 Hj ?_
 have bj:=dW Yv
 have xb:Yv<aE n:=c8.1 (by omega)
 have xc:∀i,aE off*aE (i+1)=aE off*aE i*4294967296:=fun i=>by rw[eQ,Nat.mul_assoc]
 unfold i143
 refine al [0,1,4,5,7,8,9] fun F=>?_
 simp only[ak]
 intro f0 f1 f4 f5 f7 f8 f9
 simp[a8] at f0 f1 f4 f5 f7 f8 f9
 repeat' (first
  | refine ax ?_
  | ((fail_if_success (refine aQ ?_));(fail_if_success (refine aR ?_));refine aL ?_)
  | ((first|(refine az cz ?_;simp(disch:=omega) [f0,f1,f4,f5,f7,f8,f9];(try(refine⟨by first|decide|rfl,?_⟩)))|(refine aK ?_;simp(disch:=omega) [f0,f1,f4,f5,f7,f8,f9]));(try(refine al [0,1,4,5,7,8,9] ?_;intro F;simp only[ak];intro U ab ad ah ar ao aA;simp(disch:=omega) [f0,f1,f4,f5,f7,f8,f9] at U ab ad ah ar ao aA;clear f0 f1 f4 f5 f7 f8 f9;have f0:=U;have f1:=ab;have f4:=ad;have f5:=ah;have f7:=ar;have f8:=ao;have f9:=aA;clear U ab ad ah ar ao aA)))
  | (refine aJ _ (by simp(disch:=omega) [f0,f1,f4,f5,f7,f8,f9];rfl) (fun I=>?_) (fun I=>?_)<;>first|(exfalso;simp(disch:=omega) at I;done)|(exfalso;simp at I;omega)|(simp at I))
  | ((first|refine aH ?_|refine aN ?_);simp(disch:=omega) [f0,f1,f4,f5,f7,f8,f9]))
 refine o8 n (fun i s=>JP h id off n Yv o i s/\s.F 8=bp i) (JP h id off n Yv o n) (fun _=>False) ?_ ?_ ?_ (fun _ _ h=>h.elim)
 · exact ⟨⟨o,0,rfl,fD,fun _ _=>rfl,by decide,by simp[fC,Nat.mod_one],f4,V.bump _ _ (by omega),(mE.refl id h).bump _ (by omega)⟩,f8⟩
 · rintro i s an aI ⟨⟨o',c,ol,os,pW,h7,aY,kE,hj,K⟩,kp⟩
   replace f0:=(aI 0 rfl).trans f0;replace f1:=(aI 1 rfl).trans f1;replace f7:=(aI 7 rfl).trans f7
   clear f4 f8
   have f4:=kE
   have f8:=kp
   have u4:=hj.fx
   have lv:=Nat.lt_of_lt_of_le W.fx K.next
   refine al [0,1,4,5,7,8,9] ?_
   intro F
   simp only[ak]
   intro U ab ad ah ar ao aA
   try simp[aS,f0,f1,f4,f7,f8] at U ab ad ah ar ao aA
   clear f0 f1 f4 f7 f8
   have f0:=U
   have f1:=ab
   have f4:=ad
   have f5:=ah
   have f7:=ar
   have f8:=ao
   have f9:=aA
   clear U ab ad ah ar ao aA
   by_cases a2:i<n
   · have av:=os.a5 (off+i)
     have go:=kP (show off+i<o'.length by omega)
     have sz:=lq (show 0<o'.length by omega)
     have cD:=hj.cells
     have dy:=hj.bD
     have eU:s.h.cells ry=some (cm (ai Yv)):=by rw[K.cells ry W.fx cp];exact W.cells
     have fN:=lq (show 0<(ai Yv).length by omega)
     have JO:=bj.a5 i
     have nQ:=kP (show i<(ai Yv).length by omega)
     have xd:=gv Yv i
     generalize e4:a5 o' (off+i)=x at*
     generalize a5 (ai Yv) i=y at*
     have t:=Ip (x:=x) (y:=y) (c:=c) av JO h7
     have nm:x+y+c=4294967296*((x+y+c)/4294967296)+(x+y+c)%4294967296:=(Nat.div_add_mod _ _).symm
     have td:(x+y+c)%4294967296<4294967296:=Nat.mod_lt _ (by decide)
     have ih:(x+y+c)/4294967296<=1:=by omega
     generalize (x+y+c)%4294967296=out at*
     generalize (x+y+c)/4294967296=c' at*
     have st:=pU o' (off+i) out
     have gE:=nw out (show off+i<o'.length by omega)
     rw[e4,hg] at gE
     have fL:=JM gE nm aY rfl
     rw[xd,<-mT] at fL
     have u5:i<n+1:=by omega
     clear nm gE aY xd
     repeat' (first
      | refine ax ?_
      | ((fail_if_success (refine aQ ?_));(fail_if_success (refine aR ?_));refine aL ?_)
      | ((first|(refine az cz ?_;simp(disch:=omega) [a2,u5,cD,dy,eU,go,nQ,sz,fN,st,t,u4,lv,f0,f1,f4,f5,f7,f8,f9];(try(refine⟨by first|decide|rfl,?_⟩)))|(refine aK ?_;simp(disch:=omega) [a2,u5,cD,dy,eU,go,nQ,sz,fN,st,t,u4,lv,f0,f1,f4,f5,f7,f8,f9]));(try(refine al [0,1,4,5,7,8,9] ?_;intro F;simp only[ak];intro U ab ad ah ar ao aA;simp(disch:=omega) [a2,u5,cD,dy,eU,go,nQ,sz,fN,st,t,u4,lv,f0,f1,f4,f5,f7,f8,f9] at U ab ad ah ar ao aA;clear f0 f1 f4 f5 f7 f8 f9;have f0:=U;have f1:=ab;have f4:=ad;have f5:=ah;have f7:=ar;have f8:=ao;have f9:=aA;clear U ab ad ah ar ao aA)))
      | (refine aJ _ (by simp(disch:=omega) [a2,u5,cD,dy,eU,go,nQ,sz,fN,st,t,u4,lv,f0,f1,f4,f5,f7,f8,f9];rfl) (fun I=>?_) (fun I=>?_)<;>first|(exfalso;simp(disch:=omega) [a2,u5,cD,dy,eU,go,nQ,sz,fN,st,t,u4,lv] at I;done)|(exfalso;simp at I;omega)|(simp at I))
      | ((first|refine aH ?_|refine aN ?_);simp(disch:=omega) [a2,u5,cD,dy,eU,go,nQ,sz,fN,st,t,u4,lv,f0,f1,f4,f5,f7,f8,f9]))
     refine⟨o'.set (off+i) out,c',by rw[List.length_set];exact ol,nx os td,fun j bb=>?_,ih,by rw[xc i];exact fL,f4,hj.put _ _ _ (by omega),K.put _ _ (by omega)⟩
     rw[ou _ _ (by omega),if_neg (by omega)]
     exact pW j bb
   · obtain rfl:i=n:=by omega
     repeat' (first
      | refine ax ?_
      | ((fail_if_success (refine aQ ?_));(fail_if_success (refine aR ?_));refine aL ?_)
      | ((first|(refine az cz ?_;simp(disch:=omega) [f0,f1,f4,f5,f7,f8,f9];(try(refine⟨by first|decide|rfl,?_⟩)))|(refine aK ?_;simp(disch:=omega) [f0,f1,f4,f5,f7,f8,f9]));(try(refine al [0,1,4,5,7,8,9] ?_;intro F;simp only[ak];intro U ab ad ah ar ao aA;simp(disch:=omega) [f0,f1,f4,f5,f7,f8,f9] at U ab ad ah ar ao aA;clear f0 f1 f4 f5 f7 f8 f9;have f0:=U;have f1:=ab;have f4:=ad;have f5:=ah;have f7:=ar;have f8:=ao;have f9:=aA;clear U ab ad ah ar ao aA)))
      | (refine aJ _ (by simp(disch:=omega) [f0,f1,f4,f5,f7,f8,f9];rfl) (fun I=>?_) (fun I=>?_)<;>first|(exfalso;simp(disch:=omega) at I;done)|(exfalso;simp at I;omega)|(simp at I))
      | ((first|refine aH ?_|refine aN ?_);simp(disch:=omega) [f0,f1,f4,f5,f7,f8,f9]))
     exact ⟨o',c,ol,os,pW,h7,aY,f4,hj.bump _ _ (by omega),K.bump _ (by omega)⟩
 · rintro s aI ⟨o',c,ol,os,pW,h7,aY,kE,hj,K⟩
   replace f0:=(aI 0 rfl).trans f0;replace f1:=(aI 1 rfl).trans f1
   clear f4 f8
   have f4:=kE
   have av:=os.a5 (off+n)
   have go:=kP (show off+n<o'.length by omega)
   have sz:=lq (show 0<o'.length by omega)
   have cD:=hj.cells
   have dy:=hj.bD
   generalize e4:a5 o' (off+n)=x at*
   have nm:x+0+c=4294967296*((x+c)/4294967296)+(x+c)%4294967296:=(Nat.div_add_mod _ _).symm
   have td:(x+c)%4294967296<4294967296:=Nat.mod_lt _ (by decide)
   have st:=pU o' (off+n) ((x+c)%4294967296)
   have gE:=nw ((x+c)%4294967296) (show off+n<o'.length by omega)
   rw[e4,hg] at gE
   have fL:=JM (y:=0) gE nm aY rfl
   rw[Nat.mul_zero,Nat.add_zero,Nat.mod_eq_of_lt xb,<-xc] at fL
   have Tw:∀j,j<off\/off+n<j->a5 (o'.set (off+n) ((x+c)%4294967296)) j=a5 o j:=fun j bb=>by
    rw[ou _ _ (by omega),if_neg (by omega)]
    exact pW j (by omega)
   have Tx:=nx (j:=off+n) os td
   have Ty:(o'.set (off+n) ((x+c)%4294967296)).length=o.length:=by rw[List.length_set];exact ol
   clear nm gE aY
   generalize (x+c)/4294967296=Tz at*
   refine al [0,1,4] ?_
   intro F
   simp only[ak]
   intro U ab ad
   try simp[aS,f0,f1,f4] at U ab ad
   clear f0 f1 f4
   have f0:=U
   have f1:=ab
   have f4:=ad
   clear U ab ad
   repeat' (first
    | refine ax ?_
    | ((fail_if_success (refine aQ ?_));(fail_if_success (refine aR ?_));refine aL ?_)
    | ((first|(refine az cz ?_;simp(disch:=omega) [cD,dy,go,sz,st,f0,f1,f4];(try(refine⟨by first|decide|rfl,?_⟩)))|(refine aK ?_;simp(disch:=omega) [cD,dy,go,sz,st,f0,f1,f4]));(try(refine al [0,1,4] ?_;intro F;simp only[ak];intro U ab ad;simp(disch:=omega) [cD,dy,go,sz,st,f0,f1,f4] at U ab ad;clear f0 f1 f4;have f0:=U;have f1:=ab;have f4:=ad;clear U ab ad)))
    | (refine aJ _ (by simp(disch:=omega) [cD,dy,go,sz,st,f0,f1,f4];rfl) (fun I=>?_) (fun I=>?_)<;>first|(exfalso;simp(disch:=omega) [cD,dy,go,sz,st] at I;done)|(exfalso;simp at I;omega)|(simp at I))
    | ((first|refine aH ?_|refine aN ?_);simp(disch:=omega) [cD,dy,go,sz,st,f0,f1,f4]))
   try refine And.intro trivial ?_
   exact ⟨.cb [],rfl,rfl,_,Ty,Tx,Tw,⟨Tz,fL⟩,hj.put _ _ _ (by omega),K.put _ _ (by omega)⟩
end
end
end Go.Proofs.YtcikknajimdjoaaGreatDoor
