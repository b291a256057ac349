/- What the claim needs of the walks, put together by a program (shake.py). -/
import Derived.Test.YtcikknajimdjoaaGreatDoorFpC
set_option maxRecDepth 100000
set_option linter.unusedSimpArgs false
set_option linter.unusedVariables false
set_option linter.unusedSectionVars false
namespace Go.Proofs.YtcikknajimdjoaaGreatDoor
section
set_option maxHeartbeats 8000000
open Go Go.Eng Go.RowKit
attribute [local simp] bH.m bH.o bH.n bH.g hy fh dG dr dJ evalOp.eq_1 evalOp.eq_2 evalOp.eq_3 evalOp.eq_4 evalOp.eq_5 evalOp.eq_6 evalOp.eq_7 evalOp.eq_8 evalOp.eq_9 evalOp.eq_10 evalOp.eq_11 evalOp.eq_12 evalOp.eq_13 evalOp.eq_14 evalOp.eq_15 evalOp.eq_16 evalOp.eq_17 evalOp.eq_18 evalOp.eq_19 evalOp.eq_20 evalOp.eq_21 evalOp.eq_22 evalOp.eq_23 evalOp.eq_24 evalOp.eq_25 evalOp.eq_27 evalOp.eq_28 evalOp.eq_29 kl bn.cu dq aG aF.new a8 J.cells J.dp J.e7 J.ft il iq im ir iv iu jK jL jM gY gZ cut partOf bound elems jO jP jQ jR jS jT jU jV jW jX jY jZ h1 j0 j1 j2 j3 j4 j5 j6 j7 j8 j9 j_ j' ka kb kc kd ke kf kg kh ki kj kk ff e8 e1 gi iw hA aF.close aF.set h3 km kn ko jN hB gD gq gJ gr hX gu gK hY hZ h0 gf gg gh gd ix bI hU iy hV iz iA fY iB fw iC iD iE gT jJ iF iG iH iI iJ iK iL iM iN iO iP iQ iR iS iT iU iV iW iX hf iY iZ i_ i' ja jb jc jd je jf jg jh ji jj jk
attribute [local simp high] jG jH jI jl jm jn jo jq jr js jt ju jv jw jx jy jz jA jB jC jD jE jF
attribute [local simp] aS List.getElem?_cons_zero List.getElem?_cons_succ fa eh gl Nat.mod_eq_of_lt kH kI kJ kK gL kL kM kN
section
attribute [local irreducible] cQ
attribute [local simp] ek eL du
def blk (xs:List Nat) (N:Nat):List J:=(xs++List.replicate (N - xs.length) 0).map fun x=> .int .u32 (Z x)
structure Row (h:aF) (q:Nat) (xs:List Nat) (N:Nat):Prop where
 cells:h.cells q=some (blk xs N)
 bD:h.shut q=false
 fx:q<h.next
 len:xs.length<=N
theorem Row.bump {h:aF} {q:Nat} {xs:List Nat} {N:Nat} (R:Row h q xs N) (m:Nat) (p:Nat->Option fu) (hm:h.next<=m):Row ⟨h.cells,h.shut,m,p⟩ q xs N:=⟨R.cells,R.bD,Nat.lt_of_lt_of_le R.fx hm,R.len⟩
theorem Row.app {h:aF} {q:Nat} {xs:List Nat} {N:Nat} (R:Row h q xs N) (av:xs.length<N) (eO:N<=1000000000) (v:Nat) (e:Bool) (m r:Nat) (p:Nat->Option fu):
 mR r 1 4 ⟨h.cells,h.shut,m,p⟩ (.ref q 0 xs.length N) (.sl [.int .u32 (Z v)] e)=some (.ref q 0 (xs.length+1) N,⟨aG h.cells q (some (blk (xs++ [v]) N)),h.shut,m,p⟩,.wr):=by
 have I:=R.cells
 unfold blk at I|-
 rw[<-Iu xs v N av]
 exact FY (h:=⟨h.cells,h.shut,m,p⟩) e R.bD I (by have:=R.len;simp;omega) (by simp;omega) (by simp) (by decide) (by decide) (by simp;omega) (by simp[J.cells,J.dp]) (by simp[J.cells])
theorem Row.put {h:aF} {q:Nat} {xs:List Nat} {N:Nat} (R:Row h q xs N) (av:xs.length<N) (v m:Nat) (p:Nat->Option fu) (hm:h.next<=m):
 Row ⟨aG h.cells q (some (blk (xs++ [v]) N)),h.shut,m,p⟩ q (xs++ [v]) N:=
 ⟨by simp only[aG,if_true],R.bD,Nat.lt_of_lt_of_le R.fx hm,by simp;omega⟩
theorem ID {xs:List Nat} {N:Nat} (av:xs.length=N):blk xs N=xs.map fun x=> .int .u32 (Z x):=by
 rw[blk,av,Nat.sub_self,List.replicate_zero,List.append_nil]
theorem IE (N:Nat):List.replicate N (J.int .u32 (Z 0))=blk [] N:=by simp[blk]
theorem IF {w N:Nat} (h:w<=N):blk (List.replicate w 0) N=blk [] N:=by
 simp only[blk,List.length_replicate,List.length_nil,List.nil_append,Nat.sub_zero]
 rw[List.replicate_append_replicate,show w+(N - w)=N by omega]
theorem IG {x s c:Nat} (aP:s<=32) (I:c<2^s):(x*2^s%4294967296)|||c=x*2^s%4294967296+c:=by
 have e:(4294967296:Nat)=2^(32 - s)*2^s:=by rw[<-Nat.pow_add,show 32 - s+s=32 by omega]
 rw[e,Nat.mul_mod_mul_right,Nat.mul_comm,Nat.two_pow_add_eq_or_of_lt I]
theorem IH {x s c:Nat} (aP:s<=32) (I:c<2^s):x*2^s%4294967296+c<4294967296:=by
 have e:(4294967296:Nat)=2^(32 - s)*2^s:=by rw[<-Nat.pow_add,show 32 - s+s=32 by omega]
 have ae:=Nat.mod_lt x (Nat.pow_pos (n:=32 - s) (show 0<2 by decide))
 have h2:(x%2^(32 - s)+1)*2^s<=2^(32 - s)*2^s:=Nat.mul_le_mul_right _ ae
 rw[Nat.add_mul] at h2
 rw[e,Nat.mul_mod_mul_right]
 omega
theorem II {a o i c B:Nat} (h:o+aE i*c=a%aE i*B):
 (o+aE i*((a/aE i%4294967296)*B%4294967296+c))+aE (i+1)*((a/aE i%4294967296)*B/4294967296)=a%aE (i+1)*B:=by
 rw[mT,eQ]
 generalize a/aE i%4294967296=x
 generalize a%aE i=u at*
 have:=Nat.div_add_mod (x*B) 4294967296
 generalize x*B/4294967296=q at*
 generalize x*B%4294967296=r at*
 have e:aE i*(x*B)=aE i*(4294967296*q+r):=by rw[this]
 grind
noncomputable def B5:FuncId->Option (List J->Option J):=da [(98,ln),(144,rn)]
theorem Q_:∀f T,B5 f=some T->bl Tryz.prog G f T:=dc (by simp only[List.forall_mem_cons];exact ⟨qt,BS,fun _ h=>absurd h (by simp)⟩)
theorem Q':B5 98=some ln:=rfl
theorem Ra:B5 144=some rn:=rfl
attribute [local simp] Q' Ra
def IJ (a r w L i:Nat) (s:bg):Prop:=∃q o c,o.length=i/\Small o/\c<2^r/\val o+aE i*c=a%aE i*2^r/\s.F 5= .ref q 0 (w+i) (w+L+1)/\s.F 7=b2 c/\Row s.h q (List.replicate w 0++o) (w+L+1)
noncomputable def lY:List J->Option J:=cl (fun z:Nat × Nat=>(ai z.1).length<=100000000/\z.2<=100000000) (fun z=>[aw z.1,bp z.2]) (fun z=>aw (z.1*2^z.2))
theorem rq {a n:Nat} {e:Bool} (bF:(ai a).length<=100000000) (aC:n<=100000000):lY [.sl ((ai a).map fun n=> .int .u32 (Z n)) e,bp n]=some (aw (a*2^n)):=
 cI (fun z w h=>by simp[bG,bL] at h;simp[h]) (a,n) ⟨bF,aC⟩ (by simp)
theorem wU:bl Tryz.prog G 93 lY:=by
 refine cJ mixed Q_ Bz fun z aV=>?_
 obtain⟨a,n⟩:=z
 obtain⟨cZ,aC⟩:=aV
 simp only at cZ aC|-
 by_cases ml:a=0
 · subst ml
   have bM:=eX
   simp only[Nat.zero_mul]
   unfold i93
   refine al [0,1,4,5,6,7,9,12,24,25,26,27] fun F=>?_
   simp only[ak]
   intro f0 f1 f4 f5 f6 f7 f9 f12 f24 f25 f26 f27
   simp[a8] at f0 f1 f4 f5 f6 f7 f9 f12 f24 f25 f26 f27
   repeat' (first
    | refine ax ?_
    | ((fail_if_success (refine aQ ?_));(fail_if_success (refine aR ?_));refine aL ?_)
    | ((first|(refine az aM ?_;simp(disch:=omega) [bM,f0,f1,f4,f5,f6,f7,f9,f12,f24,f25,f26,f27];(try(refine⟨by first|decide|rfl,?_⟩)))|(refine aK ?_;simp(disch:=omega) [bM,f0,f1,f4,f5,f6,f7,f9,f12,f24,f25,f26,f27]));(try(refine al [0,1,4,5,6,7,9,12,24,25,26,27] ?_;intro F;simp only[ak];intro U ab ad ah ag ar aA aX cL ch c_ c5;simp(disch:=omega) [bM,f0,f1,f4,f5,f6,f7,f9,f12,f24,f25,f26,f27] at U ab ad ah ag ar aA aX cL ch c_ c5;clear f0 f1 f4 f5 f6 f7 f9 f12 f24 f25 f26 f27;have f0:=U;have f1:=ab;have f4:=ad;have f5:=ah;have f6:=ag;have f7:=ar;have f9:=aA;have f12:=aX;have f24:=cL;have f25:=ch;have f26:=c_;have f27:=c5;clear U ab ad ah ag ar aA aX cL ch c_ c5)))
    | (refine aJ _ (by simp(disch:=omega) [bM,f0,f1,f4,f5,f6,f7,f9,f12,f24,f25,f26,f27];rfl) (fun I=>?_) (fun I=>?_)<;>first|(exfalso;simp(disch:=omega) [bM] at I;done)|(exfalso;simp at I;omega)|(simp at I))
    | ((first|refine aH ?_|refine aN ?_);simp(disch:=omega) [bM,f0,f1,f4,f5,f6,f7,f9,f12,f24,f25,f26,f27]))
 have bF:=dW a
 have cp:ai a≠ []:=fun h=>ml (g3.1 h)
 obtain⟨w,hw⟩:∃w,w=n/32:=⟨_,rfl⟩
 obtain⟨r,bf⟩:∃r,r=n%32:=⟨_,rfl⟩
 have pP:r<32:=by omega
 have sL:aE w*(a*2^r)=a*2^n:=by
  rw[ll,Nat.mul_left_comm,<-Nat.pow_add,show 32*w+r=n by omega]
 have a9:2^r<=2147483648:=Nat.pow_le_pow_right (n:=2) (by decide) (show r<=31 by omega)
 obtain⟨L,a_⟩:∃L,L=(ai a).length:=⟨_,rfl⟩
 have aU:a<aE L:=c8.1 (by omega)
 have nz:0<L:=by rw[a_];exact lk.2 ml
 unfold i93
 have lp:Z (w+L+1)*4<=140737488355328:=by simp only[Z];omega
 have mB:w<=w+L+1:=by omega
 have Rb:n<9223372036854775808:=by omega
 refine al [0,1,4,5,6,7,9,12,24,25,26,27] fun F=>?_
 simp only[ak]
 intro f0 f1 f4 f5 f6 f7 f9 f12 f24 f25 f26 f27
 simp[a8] at f0 f1 f4 f5 f6 f7 f9 f12 f24 f25 f26 f27
 repeat' (first
  | refine ax ?_
  | ((fail_if_success (refine aQ ?_));(fail_if_success (refine aR ?_));refine aL ?_)
  | ((first|(refine az aM ?_;simp(disch:=omega) [<-hw,<-bf,<-a_,cp,lp,mB,nz,f0,f1,f4,f5,f6,f7,f9,f12,f24,f25,f26,f27];(try(refine⟨by first|decide|rfl,?_⟩)))|(refine aK ?_;simp(disch:=omega) [<-hw,<-bf,<-a_,cp,lp,mB,nz,f0,f1,f4,f5,f6,f7,f9,f12,f24,f25,f26,f27]));(try(refine al [0,1,4,5,6,7,9,12,24,25,26,27] ?_;intro F;simp only[ak];intro U ab ad ah ag ar aA aX cL ch c_ c5;simp(disch:=omega) [<-hw,<-bf,<-a_,cp,lp,mB,nz,f0,f1,f4,f5,f6,f7,f9,f12,f24,f25,f26,f27] at U ab ad ah ag ar aA aX cL ch c_ c5;clear f0 f1 f4 f5 f6 f7 f9 f12 f24 f25 f26 f27;have f0:=U;have f1:=ab;have f4:=ad;have f5:=ah;have f6:=ag;have f7:=ar;have f9:=aA;have f12:=aX;have f24:=cL;have f25:=ch;have f26:=c_;have f27:=c5;clear U ab ad ah ag ar aA aX cL ch c_ c5)))
  | (refine aJ _ (by simp(disch:=omega) [<-hw,<-bf,<-a_,cp,lp,mB,nz,f0,f1,f4,f5,f6,f7,f9,f12,f24,f25,f26,f27];rfl) (fun I=>?_) (fun I=>?_)<;>first|(exfalso;simp(disch:=omega) [<-hw,<-bf,<-a_,cp,lp,mB,nz] at I;done)|(exfalso;simp at I;omega)|(simp at I))
  | ((first|refine aH ?_|refine aN ?_);simp(disch:=omega) [<-hw,<-bf,<-a_,cp,lp,mB,nz,f0,f1,f4,f5,f6,f7,f9,f12,f24,f25,f26,f27]))
 refine o8 L (fun i s=>IJ a r w L i s/\s.F 26=bp i) (IJ a r w L L) (fun _=>False) ?_ ?_ ?_ (fun _ _ h=>h.elim)
 · refine⟨?_,f26⟩
   refine⟨_,[],0,rfl,Small.nil,Nat.pow_pos (by decide),by simp[val,fC,Nat.mod_one],f5,f7,?_,?_,?_,?_⟩
   · rw[List.append_nil,IF mB,<-IE];simp[aG]
   · simp
   · simp
   · simp;omega
 · rintro i s an aI ⟨⟨q,o,c,a4,aP,qy,aY,ev,h4,R⟩,wV⟩
   replace f0:=(aI 0 rfl).trans f0;replace f6:=(aI 6 rfl).trans f6;replace f24:=(aI 24 rfl).trans f24;replace f25:=(aI 25 rfl).trans f25
   clear f5 f7 f26
   have f5:=ev
   have f7:=h4
   have f26:=wV
   refine al [0,5,6,7,9,24,25,26,27] ?_
   intro F
   simp only[ak]
   intro U ah ag ar aA cL ch c_ c5
   try simp[aS,f0,f5,f6,f7,f24,f25,f26] at U ah ag ar aA cL ch c_ c5
   clear f0 f5 f6 f7 f24 f25 f26
   have f0:=U
   have f5:=ah
   have f6:=ag
   have f7:=ar
   have f9:=aA
   have f24:=cL
   have f25:=ch
   have f26:=c_
   have f27:=c5
   clear U ah ag ar aA cL ch c_ c5
   by_cases a2:i<L
   · have av:=bF.a5 i
     have ew:=(k4 (show i<(ai a).length by omega)).symm
     have st:=II aY
     rw[<-gv] at st
     have eD:=IG (x:=a5 (ai a) i) (by omega) qy
     have ef:=IH (x:=a5 (ai a) i) (by omega) qy
     have hlen:(List.replicate w 0++o).length=w+i:=by simp[a4]
     have ap:=R.app (by omega) (by omega) (a5 (ai a) i*2^r%4294967296+c)
     rw[hlen] at ap
     have bz:min r 32=r:=by omega
     have b4:min r 64=r:=by omega
     have hr:a5 (ai a) i*2^r/4294967296<2^r:=by
      rw[Nat.div_lt_iff_lt_mul (by decide),Nat.mul_comm]
      exact Nat.mul_lt_mul_of_pos_left av (Nat.pow_pos (by decide))
     have nA:a5 (ai a) i*2^r<18446744073709551616:=Nat.lt_of_le_of_lt (Nat.mul_le_mul (show a5 (ai a) i<=4294967295 by omega) a9) (by decide)
     have mm:a5 (ai a) i*2^r/4294967296<4294967296:=by omega
     have B6:=fun m p hm=>R.put (m:=m) (p:=p) (by omega) (a5 (ai a) i*2^r%4294967296+c) hm
     repeat' (first
      | refine ax ?_
      | ((fail_if_success (refine aQ ?_));(fail_if_success (refine aR ?_));refine aL ?_)
      | ((first|(refine az aM ?_;simp(disch:=omega) [a2,ew,eD,ef,ap,bz,b4,nA,mm,<-a_,f0,f5,f6,f7,f9,f24,f25,f26,f27];(try(refine⟨by first|decide|rfl,?_⟩)))|(refine aK ?_;simp(disch:=omega) [a2,ew,eD,ef,ap,bz,b4,nA,mm,<-a_,f0,f5,f6,f7,f9,f24,f25,f26,f27]));(try(refine al [0,5,6,7,9,24,25,26,27] ?_;intro F;simp only[ak];intro U ah ag ar aA cL ch c_ c5;simp(disch:=omega) [a2,ew,eD,ef,ap,bz,b4,nA,mm,<-a_,f0,f5,f6,f7,f9,f24,f25,f26,f27] at U ah ag ar aA cL ch c_ c5;clear f0 f5 f6 f7 f9 f24 f25 f26 f27;have f0:=U;have f5:=ah;have f6:=ag;have f7:=ar;have f9:=aA;have f24:=cL;have f25:=ch;have f26:=c_;have f27:=c5;clear U ah ag ar aA cL ch c_ c5)))
      | (refine aJ _ (by simp(disch:=omega) [a2,ew,eD,ef,ap,bz,b4,nA,mm,<-a_,f0,f5,f6,f7,f9,f24,f25,f26,f27];rfl) (fun I=>?_) (fun I=>?_)<;>first|(exfalso;simp(disch:=omega) [a2,ew,eD,ef,ap,bz,b4,nA,mm,<-a_] at I;done)|(exfalso;simp at I;omega)|(simp at I))
      | ((first|refine aH ?_|refine aN ?_);simp(disch:=omega) [a2,ew,eD,ef,ap,bz,b4,nA,mm,<-a_,f0,f5,f6,f7,f9,f24,f25,f26,f27]))
     refine⟨q,o++ [a5 (ai a) i*2^r%4294967296+c],_,by simp[a4],o_.2 ⟨aP,mi.2 ⟨ef,Small.nil⟩⟩,hr,?_,f5,f7,?_⟩
     · rw[mU,a4];simpa[val] using st
     · rw[<-List.append_assoc];refine B6 _ _ ?_;omega
   · have rl:i=L:=by omega
     subst rl
     repeat' (first
      | refine ax ?_
      | ((fail_if_success (refine aQ ?_));(fail_if_success (refine aR ?_));refine aL ?_)
      | ((first|(refine az aM ?_;simp(disch:=omega) [a2,f0,f5,f6,f7,f9,f24,f25,f26,f27];(try(refine⟨by first|decide|rfl,?_⟩)))|(refine aK ?_;simp(disch:=omega) [a2,f0,f5,f6,f7,f9,f24,f25,f26,f27]));(try(refine al [0,5,6,7,9,24,25,26,27] ?_;intro F;simp only[ak];intro U ah ag ar aA cL ch c_ c5;simp(disch:=omega) [a2,f0,f5,f6,f7,f9,f24,f25,f26,f27] at U ah ag ar aA cL ch c_ c5;clear f0 f5 f6 f7 f9 f24 f25 f26 f27;have f0:=U;have f5:=ah;have f6:=ag;have f7:=ar;have f9:=aA;have f24:=cL;have f25:=ch;have f26:=c_;have f27:=c5;clear U ah ag ar aA cL ch c_ c5)))
      | (refine aJ _ (by simp(disch:=omega) [a2,f0,f5,f6,f7,f9,f24,f25,f26,f27];rfl) (fun I=>?_) (fun I=>?_)<;>first|(exfalso;simp(disch:=omega) [a2] at I;done)|(exfalso;simp at I;omega)|(simp at I))
      | ((first|refine aH ?_|refine aN ?_);simp(disch:=omega) [a2,f0,f5,f6,f7,f9,f24,f25,f26,f27]))
     exact ⟨q,o,c,a4,aP,qy,aY,f5,f7,R.bump _ _ (by omega)⟩
 · rintro s aI ⟨q,o,c,a4,aP,qy,aY,ev,h4,R⟩
   clear f5 f7 f26
   have f5:=ev
   have f7:=h4
   refine al [4,5,7] ?_
   intro F
   simp only[ak]
   intro ad ah ar
   try simp[aS,f5,f7] at ad ah ar
   clear f5 f7
   have f4:=ad
   have f5:=ah
   have f7:=ar
   clear ad ah ar
   have hlen:(List.replicate w 0++o).length=w+L:=by simp[a4]
   have mm:c<4294967296:=by omega
   have ap:=R.app (by omega) (by omega) c
   rw[hlen] at ap
   have oZ:Small ((List.replicate w 0++o)++ [c]):=o_.2 ⟨o_.2 ⟨qs w,aP⟩,mi.2 ⟨mm,Small.nil⟩⟩
   have hb:((List.replicate w 0++o)++ [c]).length=w+L+1:=by simp[a4];omega
   have cS:=pR (e:=false) oZ (by omega)
   rw[Nat.mod_eq_of_lt aU] at aY
   have mq:val ((List.replicate w 0++o)++ [c])=a*2^n:=by
    rw[<-sL,List.append_assoc,BP,mU,a4]
    simp only[val,Nat.mul_zero,Nat.add_zero];rw[aY]
   rw[mq] at cS
   rw[ID hb] at ap
   generalize (List.replicate w 0++o)++ [c]=xs at*
   have fe:List.take (w+L+1) (xs.map fun x=>J.int .u32 (Z x))=xs.map fun x=>J.int .u32 (Z x):=List.take_of_length_le (by simp;omega)
   repeat' (first
    | refine ax ?_
    | ((fail_if_success (refine aQ ?_));(fail_if_success (refine aR ?_));refine aL ?_)
    | ((first|(refine az aM ?_;simp(disch:=omega) [ap,cS,fe,hb,f4,f5,f7];(try(refine⟨by first|decide|rfl,?_⟩)))|(refine aK ?_;simp(disch:=omega) [ap,cS,fe,hb,f4,f5,f7]));(try(refine al [4,5,7] ?_;intro F;simp only[ak];intro ad ah ar;simp(disch:=omega) [ap,cS,fe,hb,f4,f5,f7] at ad ah ar;clear f4 f5 f7;have f4:=ad;have f5:=ah;have f7:=ar;clear ad ah ar)))
    | (refine aJ _ (by simp(disch:=omega) [ap,cS,fe,hb,f4,f5,f7];rfl) (fun I=>?_) (fun I=>?_)<;>first|(exfalso;simp(disch:=omega) [ap,cS,fe,hb] at I;done)|(exfalso;simp at I;omega)|(simp at I))
    | ((first|refine aH ?_|refine aN ?_);simp(disch:=omega) [ap,cS,fe,hb,f4,f5,f7]))
end
section
attribute [local irreducible] cQ
attribute [local simp] ek eL du
def db (b:Bool) (n:Nat):Int:=if b then -n else n
theorem IK (b:Bool) (n:Nat):b' (db b n)=(b&&decide (n≠0)):=by
 cases b
 · simp[b',db]
 · simp only[b',db,if_true,Bool.true_and,decide_eq_decide];omega
theorem B7 (b:Bool) (n:Nat):(db b n).natAbs=n:=by
 cases b<;>simp only[db,if_true,Bool.false_eq_true,if_false]<;>omega
theorem sS (z:Int):db (b' z) z.natAbs=z:=by
 simp only[db,b',decide_eq_true_eq];split<;>omega
noncomputable def IL:FuncId->Option (List J->Option J):=da [(106,oo)]
theorem Rc:∀f T,IL f=some T->bl Tryz.prog G f T:=dc (by simp only[List.forall_mem_cons];exact ⟨wJ,fun _ h=>absurd h (by simp)⟩)
theorem Rd:IL 106=some oo:=rfl
attribute [local simp] Rd
noncomputable def nB:List J->Option J:=cl (fun z:Bool × List Nat=>Small z.2/\z.2.length<=1073741824) (fun z=>[.bool z.1,cH z.2 false]) (fun z=>a7 (db z.1 (val z.2)))
theorem yS {b:Bool} {l:List Nat} {e:Bool} (h:Small l) (a6:l.length<=1073741824):nB [.bool b,.sl (l.map fun n=> .int .u32 (Z n)) e]=some (a7 (db b (val l))):=
 cI (fun z w h=>by simp[bG] at h;simp[h]) (b,l) ⟨h,a6⟩ (by simp)
theorem wW:bl Tryz.prog G 56 nB:=by
 refine cJ mixed Rc Gi fun z aV=>?_
 obtain⟨b,l⟩:=z
 obtain⟨aP,a6⟩:=aV
 simp only at aP a6|-
 have t:=qq (e:=false) aP a6
 have ba:=IK b (val l)
 have br:=B7 b (val l)
 by_cases aY:val l=0
 · have aC:ai (val l)= []:=g3.2 aY
   have bw:decide (val l≠0)=false:=decide_eq_false (fun h=>h aY)
   rw[bw] at ba
   unfold i56
   cases b
   · skip
     refine al [0,1,4,5] fun F=>?_
     simp only[ak]
     intro f0 f1 f4 f5
     simp[a8] at f0 f1 f4 f5
     repeat' (first
      | refine ax ?_
      | ((fail_if_success (refine aQ ?_));(fail_if_success (refine aR ?_));refine aL ?_)
      | ((first|(refine az aM ?_;simp(disch:=omega) [t,aC,f0,f1,f4,f5];(try(refine⟨by first|decide|rfl,?_⟩)))|(refine aK ?_;simp(disch:=omega) [t,aC,f0,f1,f4,f5]));(try(refine al [0,1,4,5] ?_;intro F;simp only[ak];intro U ab ad ah;simp(disch:=omega) [t,aC,f0,f1,f4,f5] at U ab ad ah;clear f0 f1 f4 f5;have f0:=U;have f1:=ab;have f4:=ad;have f5:=ah;clear U ab ad ah)))
      | (refine aJ _ (by simp(disch:=omega) [t,aC,f0,f1,f4,f5];rfl) (fun I=>?_) (fun I=>?_)<;>first|(exfalso;simp(disch:=omega) [t,aC] at I;done)|(exfalso;simp at I;omega)|(simp at I))
      | ((first|refine aH ?_|refine aN ?_);simp(disch:=omega) [t,aC,f0,f1,f4,f5,ba,br]))
   · skip
     refine al [0,1,4,5] fun F=>?_
     simp only[ak]
     intro f0 f1 f4 f5
     simp[a8] at f0 f1 f4 f5
     repeat' (first
      | refine ax ?_
      | ((fail_if_success (refine aQ ?_));(fail_if_success (refine aR ?_));refine aL ?_)
      | ((first|(refine az aM ?_;simp(disch:=omega) [t,aC,f0,f1,f4,f5];(try(refine⟨by first|decide|rfl,?_⟩)))|(refine aK ?_;simp(disch:=omega) [t,aC,f0,f1,f4,f5]));(try(refine al [0,1,4,5] ?_;intro F;simp only[ak];intro U ab ad ah;simp(disch:=omega) [t,aC,f0,f1,f4,f5] at U ab ad ah;clear f0 f1 f4 f5;have f0:=U;have f1:=ab;have f4:=ad;have f5:=ah;clear U ab ad ah)))
      | (refine aJ _ (by simp(disch:=omega) [t,aC,f0,f1,f4,f5];rfl) (fun I=>?_) (fun I=>?_)<;>first|(exfalso;simp(disch:=omega) [t,aC] at I;done)|(exfalso;simp at I;omega)|(simp at I))
      | ((first|refine aH ?_|refine aN ?_);simp(disch:=omega) [t,aC,f0,f1,f4,f5,ba,br]))
 · have aC:0<(ai (val l)).length:=lk.2 aY
   have eC:¬ai (val l)= []:=fun h=>aY (g3.1 h)
   have bw:decide (val l≠0)=true:=decide_eq_true aY
   rw[bw] at ba
   unfold i56
   cases b
   · skip
     refine al [0,1,4,5] fun F=>?_
     simp only[ak]
     intro f0 f1 f4 f5
     simp[a8] at f0 f1 f4 f5
     repeat' (first
      | refine ax ?_
      | ((fail_if_success (refine aQ ?_));(fail_if_success (refine aR ?_));refine aL ?_)
      | ((first|(refine az aM ?_;simp(disch:=omega) [t,aC,f0,f1,f4,f5];(try(refine⟨by first|decide|rfl,?_⟩)))|(refine aK ?_;simp(disch:=omega) [t,aC,f0,f1,f4,f5]));(try(refine al [0,1,4,5] ?_;intro F;simp only[ak];intro U ab ad ah;simp(disch:=omega) [t,aC,f0,f1,f4,f5] at U ab ad ah;clear f0 f1 f4 f5;have f0:=U;have f1:=ab;have f4:=ad;have f5:=ah;clear U ab ad ah)))
      | (refine aJ _ (by simp(disch:=omega) [t,aC,f0,f1,f4,f5];rfl) (fun I=>?_) (fun I=>?_)<;>first|(exfalso;simp(disch:=omega) [t,aC] at I;done)|(exfalso;simp at I;omega)|(simp at I))
      | ((first|refine aH ?_|refine aN ?_);simp(disch:=omega) [t,aC,f0,f1,f4,f5,ba,br]))
   · skip
     refine al [0,1,4,5] fun F=>?_
     simp only[ak]
     intro f0 f1 f4 f5
     simp[a8] at f0 f1 f4 f5
     repeat' (first
      | refine ax ?_
      | ((fail_if_success (refine aQ ?_));(fail_if_success (refine aR ?_));refine aL ?_)
      | ((first|(refine az aM ?_;simp(disch:=omega) [t,aC,eC,f0,f1,f4,f5];(try(refine⟨by first|decide|rfl,?_⟩)))|(refine aK ?_;simp(disch:=omega) [t,aC,eC,f0,f1,f4,f5]));(try(refine al [0,1,4,5] ?_;intro F;simp only[ak];intro U ab ad ah;simp(disch:=omega) [t,aC,eC,f0,f1,f4,f5] at U ab ad ah;clear f0 f1 f4 f5;have f0:=U;have f1:=ab;have f4:=ad;have f5:=ah;clear U ab ad ah)))
      | (refine aJ _ (by simp(disch:=omega) [t,aC,eC,f0,f1,f4,f5];rfl) (fun I=>?_) (fun I=>?_)<;>first|(exfalso;simp(disch:=omega) [t,aC,eC] at I;done)|(exfalso;simp at I;omega)|(simp at I))
      | ((first|refine aH ?_|refine aN ?_);simp(disch:=omega) [t,aC,eC,f0,f1,f4,f5,ba,br]))
noncomputable def yT:FuncId->Option (List J->Option J):=da [(56,nB),(84,ri),(92,rk)]
theorem Re:∀f T,yT f=some T->bl Tryz.prog G f T:=dc (by simp only[List.forall_mem_cons];exact ⟨wW,BM,BO,fun _ h=>absurd h (by simp)⟩)
theorem Rf:yT 56=some nB:=rfl
theorem Rg:yT 84=some ri:=rfl
theorem Rh:yT 92=some rk:=rfl
attribute [local simp] Rf Rg Rh
theorem Ri {a b:Int} (h:b' a=b' b):db (b' a) (a.natAbs+b.natAbs)=a+b:=by
 simp only[db,b',decide_eq_true_eq,decide_eq_decide] at*;split<;>omega
theorem Rj {a b:Int} (h:b' a≠b' b) (h2:¬a.natAbs<b.natAbs):db (b' a) (a.natAbs - b.natAbs)=a+b:=by
 simp only[db,b',decide_eq_true_eq,ne_eq,decide_eq_decide] at*;split<;>omega
theorem Rk {a b:Int} (h:b' a≠b' b) (h2:a.natAbs<b.natAbs):db (b' b) (b.natAbs - a.natAbs)=a+b:=by
 simp only[db,b',decide_eq_true_eq,ne_eq,decide_eq_decide] at*;split<;>omega
def bS (z:Int):Nat:=(ai z.natAbs).length
noncomputable def pT:List J->Option J:=cl (fun z:Int × Int=>bS z.1<=100000000/\bS z.2<=100000000) (fun z=>[a7 z.1,a7 z.2]) (fun z=>a7 (z.1+z.2))
theorem Rl {a b:Int} {e e':Bool} (bF:bS a<=100000000) (au:bS b<=100000000):
 pT [.agg [.bool (b' a),cH (ai a.natAbs) e],.agg [.bool (b' b),cH (ai b.natAbs) e']]=some (a7 (a+b)):=
 cI (fun z w h=>by simp only[List.cons.injEq,bU] at h;rw[h.1,h.2.1]) (a,b) ⟨bF,au⟩ (by simp)
theorem yU:bl Tryz.prog G 111 pT:=by
 refine cJ mixed Re Pr fun z aV=>?_
 obtain⟨a,b⟩:=z
 obtain⟨bF,au⟩:=aV
 simp only[bS] at bF au|-
 have sb:=fun n=>dW n
 unfold i111
 by_cases aP:b' a=b' b
 · have t1:=BL (a:=a.natAbs) (b:=b.natAbs) (e:=false) (e':=false) (by omega) (by omega)
   have a6:=k5 a.natAbs b.natAbs
   have t2:=yS (b:=b' a) (l:=ai (a.natAbs+b.natAbs)) (e:=false) (sb _) (by omega)
   rw[du,Ri aP] at t2
   generalize aU:b' a=AM at*
   generalize a9:b' b=AN at*
   subst aP
   refine al [0,1,2,3,4,5,6,7,13,30] fun F=>?_
   simp only[ak]
   intro f0 f1 f2 f3 f4 f5 f6 f7 f13 f30
   simp[a8] at f0 f1 f2 f3 f4 f5 f6 f7 f13 f30
   repeat' (first
    | refine ax ?_
    | ((fail_if_success (refine aQ ?_));(fail_if_success (refine aR ?_));refine aL ?_)
    | ((first|(refine az aM ?_;simp(disch:=omega) [aU,a9,t1,t2,f0,f1,f2,f3,f4,f5,f6,f7,f13,f30];(try(refine⟨by first|decide|rfl,?_⟩)))|(refine aK ?_;simp(disch:=omega) [aU,a9,t1,t2,f0,f1,f2,f3,f4,f5,f6,f7,f13,f30]));(try(refine al [0,1,2,3,4,5,6,7,13,30] ?_;intro F;simp only[ak];intro U ab aa af ad ah ag ar aZ cU;simp(disch:=omega) [aU,a9,t1,t2,f0,f1,f2,f3,f4,f5,f6,f7,f13,f30] at U ab aa af ad ah ag ar aZ cU;clear f0 f1 f2 f3 f4 f5 f6 f7 f13 f30;have f0:=U;have f1:=ab;have f2:=aa;have f3:=af;have f4:=ad;have f5:=ah;have f6:=ag;have f7:=ar;have f13:=aZ;have f30:=cU;clear U ab aa af ad ah ag ar aZ cU)))
    | (refine aJ _ (by simp(disch:=omega) [aU,a9,t1,t2,f0,f1,f2,f3,f4,f5,f6,f7,f13,f30];rfl) (fun I=>?_) (fun I=>?_)<;>first|(exfalso;simp(disch:=omega) [aU,a9,t1,t2] at I;done)|(exfalso;simp at I;omega)|(simp at I))
    | ((first|refine aH ?_|refine aN ?_);simp(disch:=omega) [aU,a9,t1,t2,f0,f1,f2,f3,f4,f5,f6,f7,f13,f30]))
 · have ld:(b' a == b' b)=false:=by simpa using aP
   have t1:=yG (a:=a.natAbs) (b:=b.natAbs) (e:=false) (e':=false) (by omega) (by omega)
   by_cases b6:a.natAbs<b.natAbs
   · rw[if_pos b6] at t1
     have t2:=yG (a:=b.natAbs) (b:=a.natAbs) (e:=false) (e':=false) (by omega) (by omega)
     rw[if_neg (by omega)] at t2
     have t3:=yS (b:=b' b) (l:=ai (b.natAbs - a.natAbs)) (e:=false) (sb _) (Nat.le_trans (f_ (Nat.sub_le _ _)) (by omega))
     rw[du,Rk aP b6] at t3
     generalize aU:b' a=AM at*
     generalize a9:b' b=AN at*
     refine al [0,1,2,3,4,5,6,7,13,30] fun F=>?_
     simp only[ak]
     intro f0 f1 f2 f3 f4 f5 f6 f7 f13 f30
     simp[a8] at f0 f1 f2 f3 f4 f5 f6 f7 f13 f30
     repeat' (first
      | refine ax ?_
      | ((fail_if_success (refine aQ ?_));(fail_if_success (refine aR ?_));refine aL ?_)
      | ((first|(refine az aM ?_;simp(disch:=omega) [aU,a9,ld,t1,t2,t3,f0,f1,f2,f3,f4,f5,f6,f7,f13,f30];(try(refine⟨by first|decide|rfl,?_⟩)))|(refine aK ?_;simp(disch:=omega) [aU,a9,ld,t1,t2,t3,f0,f1,f2,f3,f4,f5,f6,f7,f13,f30]));(try(refine al [0,1,2,3,4,5,6,7,13,30] ?_;intro F;simp only[ak];intro U ab aa af ad ah ag ar aZ cU;simp(disch:=omega) [aU,a9,ld,t1,t2,t3,f0,f1,f2,f3,f4,f5,f6,f7,f13,f30] at U ab aa af ad ah ag ar aZ cU;clear f0 f1 f2 f3 f4 f5 f6 f7 f13 f30;have f0:=U;have f1:=ab;have f2:=aa;have f3:=af;have f4:=ad;have f5:=ah;have f6:=ag;have f7:=ar;have f13:=aZ;have f30:=cU;clear U ab aa af ad ah ag ar aZ cU)))
      | (refine aJ _ (by simp(disch:=omega) [aU,a9,ld,t1,t2,t3,f0,f1,f2,f3,f4,f5,f6,f7,f13,f30];rfl) (fun I=>?_) (fun I=>?_)<;>first|(exfalso;simp(disch:=omega) [aU,a9,ld,t1,t2,t3] at I;done)|(exfalso;simp at I;omega)|(simp at I))
      | ((first|refine aH ?_|refine aN ?_);simp(disch:=omega) [aU,a9,ld,t1,t2,t3,f0,f1,f2,f3,f4,f5,f6,f7,f13,f30]))
   · rw[if_neg b6] at t1
     have t3:=yS (b:=b' a) (l:=ai (a.natAbs - b.natAbs)) (e:=false) (sb _) (Nat.le_trans (f_ (Nat.sub_le _ _)) (by omega))
     rw[du,Rj aP b6] at t3
     generalize aU:b' a=AM at*
     generalize a9:b' b=AN at*
     refine al [0,1,2,3,4,5,6,7,13,30] fun F=>?_
     simp only[ak]
     intro f0 f1 f2 f3 f4 f5 f6 f7 f13 f30
     simp[a8] at f0 f1 f2 f3 f4 f5 f6 f7 f13 f30
     repeat' (first
      | refine ax ?_
      | ((fail_if_success (refine aQ ?_));(fail_if_success (refine aR ?_));refine aL ?_)
      | ((first|(refine az aM ?_;simp(disch:=omega) [aU,a9,ld,t1,t3,f0,f1,f2,f3,f4,f5,f6,f7,f13,f30];(try(refine⟨by first|decide|rfl,?_⟩)))|(refine aK ?_;simp(disch:=omega) [aU,a9,ld,t1,t3,f0,f1,f2,f3,f4,f5,f6,f7,f13,f30]));(try(refine al [0,1,2,3,4,5,6,7,13,30] ?_;intro F;simp only[ak];intro U ab aa af ad ah ag ar aZ cU;simp(disch:=omega) [aU,a9,ld,t1,t3,f0,f1,f2,f3,f4,f5,f6,f7,f13,f30] at U ab aa af ad ah ag ar aZ cU;clear f0 f1 f2 f3 f4 f5 f6 f7 f13 f30;have f0:=U;have f1:=ab;have f2:=aa;have f3:=af;have f4:=ad;have f5:=ah;have f6:=ag;have f7:=ar;have f13:=aZ;have f30:=cU;clear U ab aa af ad ah ag ar aZ cU)))
      | (refine aJ _ (by simp(disch:=omega) [aU,a9,ld,t1,t3,f0,f1,f2,f3,f4,f5,f6,f7,f13,f30];rfl) (fun I=>?_) (fun I=>?_)<;>first|(exfalso;simp(disch:=omega) [aU,a9,ld,t1,t3] at I;done)|(exfalso;simp at I;omega)|(simp at I))
      | ((first|refine aH ?_|refine aN ?_);simp(disch:=omega) [aU,a9,ld,t1,t3,f0,f1,f2,f3,f4,f5,f6,f7,f13,f30]))
end
section
attribute [local irreducible] cQ
attribute [local simp] ek eL du
theorem bT {a b:Nat}:aw a=aw b↔a=b:=by simp[bG,bL]
theorem bX {a b:List Nat} {e:Bool}:cH a e=cH b e↔a=b:=by simp[bG]
theorem bY {a b:List Int} {e:Bool}:HE a e=HE b e↔a=b:=by simp[bV]
abbrev qr (q:Rat):J:= .agg [.bool (b' q.num),aw q.num.natAbs,aw q.den]
theorem bZ {a b:Rat}:qr a=qr b↔a=b:=by
 constructor
 · intro h
   simp only[J.agg.injEq,List.cons.injEq,J.bool.injEq,bT,and_true] at h
   exact Rat.ext (HB.1 ⟨h.1,h.2.1⟩) h.2.2
 · rintro rfl;rfl
def mW (m k:Nat):List Nat:=(List.range k).map fun j=>m/aE j%4294967296
theorem B8 (m k:Nat):(mW m k).length=k:=by simp[mW]
theorem IM (m k:Nat):mW m (k+1)=mW m k++ [m/aE k%4294967296]:=by simp[mW,List.range_succ]
theorem Rm (m k:Nat):Small (mW m k):=fun x av=>by
 obtain⟨j,_,rfl⟩:=List.mem_map.1 av
 exact Nat.mod_lt _ (by decide)
theorem IN (m:Nat):∀k,val (mW m k)=m%aE k
 | 0=>by rw[fC,Nat.mod_one];rfl
 | k+1=>by rw[IM,mU,IN m k,B8,mT];simp[val]
theorem Rn {u s:Nat} (aP:s<32):((u%4294967296)/2^s)|||((u/4294967296%4294967296)*4294967296/2^s%4294967296)=u/2^s%4294967296:=by
 obtain⟨k,aI⟩:∃k,k=2^s:=⟨_,rfl⟩
 obtain⟨m,hm⟩:∃m,m=2^(32 - s):=⟨_,rfl⟩
 have a9:(4294967296:Nat)=m*k:=by rw[hm,aI,<-Nat.pow_add,show 32 - s+s=32 by omega]
 have wX:0<k:=by rw[aI];exact Nat.pow_pos (by decide)
 have my:0<m:=by rw[hm];exact Nat.pow_pos (by decide)
 rw[<-aI]
 have aj:∀y,y*4294967296/k=m*y:=fun y=>by
  rw[a9,show y*(m*k)=m*y*k by grind,Nat.mul_div_cancel _ wX]
 rw[aj]
 obtain⟨x,y,w,av,bj,hu⟩:∃x y w,x<4294967296/\y<4294967296/\u=x+4294967296*(y+4294967296*w):=⟨u%4294967296,u/4294967296%4294967296,u/4294967296/4294967296,Nat.mod_lt _ (by decide),Nat.mod_lt _ (by decide),by omega⟩
 rw[show u%4294967296=x by omega,show u/4294967296%4294967296=y by omega]
 have Ro:x/k<m:=by rw[Nat.div_lt_iff_lt_mul wX,<-a9];exact av
 have aq:u/k=x/k+m*(y+4294967296*w):=by
  rw[hu,show x+4294967296*(y+4294967296*w)=x+k*(m*(y+4294967296*w)) by rw[<-Nat.mul_assoc,Nat.mul_comm k m,<-a9],Nat.add_mul_div_left _ _ wX]
 have aW:m*y%4294967296=m*(y%k):=by rw[a9,Nat.mul_mod_mul_left]
 have bW:u/k%4294967296=x/k+m*(y%k):=by
  rw[aq,show x/k+m*(y+4294967296*w)=(x/k+m*(y%k))+4294967296*(y/k+m*w) by
   have:=Nat.div_add_mod y k
   rw[a9];grind]
  rw[Nat.add_mul_mod_self_left,Nat.mod_eq_of_lt]
  have ae:y%k+1<=k:=Nat.mod_lt _ wX
  have h2:m*(y%k+1)<=m*k:=Nat.mul_le_mul_left m ae
  rw[Nat.mul_add] at h2
  omega
 rw[aW,bW,hm,Nat.or_comm,<-Nat.two_pow_add_eq_or_of_lt (by rw[<-hm];exact Ro)]
 omega
def yV (m i:Nat) (s:bg):Prop:=eE 1 s.h (s.F 7) ((mW m i).map fun n=> .int .u32 (Z n))
noncomputable def B9:FuncId->Option (List J->Option J):=da [(98,ln),(144,rn)]
theorem B_:∀f T,B9 f=some T->bl Tryz.prog G f T:=dc (by simp only[List.forall_mem_cons];exact ⟨qt,BS,fun _ h=>absurd h (by simp)⟩)
theorem Rp:B9 98=some ln:=rfl
theorem Rq:B9 144=some rn:=rfl
attribute [local simp] Rp Rq
noncomputable def mX:List J->Option J:=cl (fun z:Nat × Nat=>(ai z.1).length<=100000000/\z.2<=10000000000) (fun z=>[aw z.1,bp z.2]) (fun z=>aw (z.1/2^z.2))
theorem IP (z:Nat × Nat) (h:(ai z.1).length<=100000000/\z.2<=10000000000) {args:List J} (he:args.map J.loose= [aw z.1,bp z.2]):mX args=some (aw (z.1/2^z.2)):=cI (fun z w h=>by first|(simp only[List.cons.injEq,J.int.injEq,J.bool.injEq,J.sl.injEq,bT,bU,bY,bZ,bX,bG,bL,bV,bI,true_and,and_true] at h;simp[h];done)|(simp only[J.agg.injEq,List.cons.injEq,J.int.injEq,J.bool.injEq,J.sl.injEq,bT,bU,bY,bZ,bX,bG,bL,bV,bI,true_and,and_true] at h;simp[h])) z h he
theorem B':bl Tryz.prog G 124 mX:=by
 refine cJ mixed B_ G5 fun z aV=>?_
 obtain⟨a,n⟩:=z
 obtain⟨cZ,aC⟩:=aV
 simp only at cZ aC|-
 have bF:=dW a
 obtain⟨w,hw⟩:∃w,w=n/32:=⟨_,rfl⟩
 obtain⟨r,bf⟩:∃r,r=n%32:=⟨_,rfl⟩
 have pP:r<32:=by omega
 have Ca:2^n=aE w*2^r:=by rw[ll,<-Nat.pow_add,show 32*w+r=n by omega]
 obtain⟨L,a_⟩:∃L,L=(ai a).length:=⟨_,rfl⟩
 have aU:a<aE L:=c8.1 (by omega)
 unfold i124
 by_cases sT:L<=w
 · have bM:ai (a/2^n)= []:=g3.2 (by
    rw[Ca,<-Nat.div_div_eq_div_mul,Nat.div_eq_of_lt (Nat.lt_of_lt_of_le aU (mS sT)),Nat.zero_div])
   generalize a/2^n=b at*
   refine al [0,1,4,5,6,7,8,16,20,21,22] fun F=>?_
   simp only[ak]
   intro f0 f1 f4 f5 f6 f7 f8 f16 f20 f21 f22
   simp[a8] at f0 f1 f4 f5 f6 f7 f8 f16 f20 f21 f22
   repeat' (first
    | refine ax ?_
    | ((fail_if_success (refine aQ ?_));(fail_if_success (refine aR ?_));refine aL ?_)
    | ((first|(refine az aM ?_;simp(disch:=omega) [<-hw,<-bf,<-a_,sT,f0,f1,f4,f5,f6,f7,f8,f16,f20,f21,f22];(try(refine⟨by first|decide|rfl,?_⟩)))|(refine aK ?_;simp(disch:=omega) [<-hw,<-bf,<-a_,sT,f0,f1,f4,f5,f6,f7,f8,f16,f20,f21,f22]));(try(refine al [0,1,4,5,6,7,8,16,20,21,22] ?_;intro F;simp only[ak];intro U ab ad ah ag ar ao bQ bO dx cK;simp(disch:=omega) [<-hw,<-bf,<-a_,sT,f0,f1,f4,f5,f6,f7,f8,f16,f20,f21,f22] at U ab ad ah ag ar ao bQ bO dx cK;clear f0 f1 f4 f5 f6 f7 f8 f16 f20 f21 f22;have f0:=U;have f1:=ab;have f4:=ad;have f5:=ah;have f6:=ag;have f7:=ar;have f8:=ao;have f16:=bQ;have f20:=bO;have f21:=dx;have f22:=cK;clear U ab ad ah ag ar ao bQ bO dx cK)))
    | (refine aJ _ (by simp(disch:=omega) [<-hw,<-bf,<-a_,sT,f0,f1,f4,f5,f6,f7,f8,f16,f20,f21,f22];rfl) (fun I=>?_) (fun I=>?_)<;>first|(exfalso;simp(disch:=omega) [<-hw,<-bf,<-a_,sT] at I;done)|(exfalso;simp at I;omega)|(simp at I))
    | ((first|refine aH ?_|refine aN ?_);simp(disch:=omega) [<-hw,<-bf,<-a_,sT,f0,f1,f4,f5,f6,f7,f8,f16,f20,f21,f22,bM]))
 · have g4:IntKind.i64.wrap (Z L - Z w)=Z (L - w):=eh (by omega) (by omega)
   have b6:w<L:=by omega
   refine al [0,1,4,5,6,7,8,16,20,21,22] fun F=>?_
   simp only[ak]
   intro f0 f1 f4 f5 f6 f7 f8 f16 f20 f21 f22
   simp[a8] at f0 f1 f4 f5 f6 f7 f8 f16 f20 f21 f22
   repeat' (first
    | refine ax ?_
    | ((fail_if_success (refine aQ ?_));(fail_if_success (refine aR ?_));refine aL ?_)
    | ((first|(refine az aM ?_;simp(disch:=omega) [<-hw,<-bf,<-a_,b6,g4,f0,f1,f4,f5,f6,f7,f8,f16,f20,f21,f22];(try(refine⟨by first|decide|rfl,?_⟩)))|(refine aK ?_;simp(disch:=omega) [<-hw,<-bf,<-a_,b6,g4,f0,f1,f4,f5,f6,f7,f8,f16,f20,f21,f22]));(try(refine al [0,1,4,5,6,7,8,16,20,21,22] ?_;intro F;simp only[ak];intro U ab ad ah ag ar ao bQ bO dx cK;simp(disch:=omega) [<-hw,<-bf,<-a_,b6,g4,f0,f1,f4,f5,f6,f7,f8,f16,f20,f21,f22] at U ab ad ah ag ar ao bQ bO dx cK;clear f0 f1 f4 f5 f6 f7 f8 f16 f20 f21 f22;have f0:=U;have f1:=ab;have f4:=ad;have f5:=ah;have f6:=ag;have f7:=ar;have f8:=ao;have f16:=bQ;have f20:=bO;have f21:=dx;have f22:=cK;clear U ab ad ah ag ar ao bQ bO dx cK)))
    | (refine aJ _ (by simp(disch:=omega) [<-hw,<-bf,<-a_,b6,g4,f0,f1,f4,f5,f6,f7,f8,f16,f20,f21,f22];rfl) (fun I=>?_) (fun I=>?_)<;>first|(exfalso;simp(disch:=omega) [<-hw,<-bf,<-a_,b6,g4] at I;done)|(exfalso;simp at I;omega)|(simp at I))
    | ((first|refine aH ?_|refine aN ?_);simp(disch:=omega) [<-hw,<-bf,<-a_,b6,g4,f0,f1,f4,f5,f6,f7,f8,f16,f20,f21,f22]))
   refine o8 (L - w) (fun i s=>yV (a/2^n) i s/\s.F 21=bp i) (yV (a/2^n) (L - w)) (fun _=>False) ?_ ?_ ?_ (fun _ _ h=>h.elim)
   · refine⟨?_,f21⟩
     show eE 1 _ _ []
     simp only[f7]
     exact eE.nil (by simp)
   · rintro i s an aI ⟨a3,Rr⟩
     replace f0:=(aI 0 rfl).trans f0;replace f5:=(aI 5 rfl).trans f5;replace f6:=(aI 6 rfl).trans f6;replace f20:=(aI 20 rfl).trans f20
     clear f7 f21
     unfold yV at a3
     obtain⟨v,aY⟩:∃v,v=s.F 7:=⟨_,rfl⟩
     rw[<-aY] at a3
     have f7:=aY.symm
     have f21:=Rr
     refine al [0,5,6,7,8,20,21,22] ?_
     intro F
     simp only[ak]
     intro U ah ag ar ao bO dx cK
     try simp[aS,f0,f5,f6,f7,f20,f21] at U ah ag ar ao bO dx cK
     clear f0 f5 f6 f7 f20 f21
     have f0:=U
     have f5:=ah
     have f6:=ag
     have f7:=ar
     have f8:=ao
     have f20:=bO
     have f21:=dx
     have f22:=cK
     clear U ah ag ar ao bO dx cK
     have Ao:=a3.dp
     by_cases a2:i<L - w
     · have ew:=(k4 (show w+i<(ai a).length by omega)).symm
       have av:=bF.a5 (w+i)
       have bj:=bF.a5 (w+i+1)
       have t1:=BR (e:=false) (i:=w+i+1) bF (by omega)
       have lm:=Rn (u:=a/aE (w+i)) pP
       rw[<-rh,<-gv,<-gv] at lm
       have bw:a/aE (w+i)/2^r=a/2^n/aE i:=by
        rw[Ca,hg,Nat.div_div_eq_div_mul,Nat.div_div_eq_div_mul]
        congr 1;grind
       rw[bw] at lm
       have bz:min r 32=r:=by omega
       have b4:min r 64=r:=by omega
       have nC:a5 (ai a) (w+i+1)*4294967296<18446744073709551616:=by omega
       have uE:a/2^n/aE i%4294967296<4294967296:=Nat.mod_lt _ (by decide)
       have yW:=B8 (a/2^n) i
       have ap:=uh a3 (by decide) (bytes:=4) (by decide) (ys:=[J.int .u32 (Z (a/2^n/aE i%4294967296))]) (by simp) (by simp[J.cells,J.dp]) (by simp[yW];omega)
       have cd:=a3.app (ys:=[J.int .u32 (Z (a/2^n/aE i%4294967296))]) (by simp) (by simp[J.cells])
       have aW:((mW (a/2^n) i).map fun n=>J.int .u32 (Z n))++ [J.int .u32 (Z (a/2^n/aE i%4294967296))]=(mW (a/2^n) (i+1)).map fun n=>J.int .u32 (Z n):=by rw[IM];simp
       rw[aW] at ap cd
       have bW:((mW (a/2^n) i).map fun n=>J.int .u32 (Z n)).length+ [J.int .u32 (Z (a/2^n/aE i%4294967296))].length=i+1:=by simp[yW]
       rw[bW] at ap cd
       generalize Rs:(mW (a/2^n) (i+1)).map (fun n=>J.int .u32 (Z n))=gU at ap cd
       repeat' (first
        | refine ax ?_
        | ((fail_if_success (refine aQ ?_));(fail_if_success (refine aR ?_));refine aL ?_)
        | ((first|(refine az aM ?_;simp(disch:=omega) [a2,ew,t1,lm,bz,b4,nC,uE,ap,<-a_,f0,f5,f6,f7,f8,f20,f21,f22];(try(refine⟨by first|decide|rfl,?_⟩)))|(refine aK ?_;simp(disch:=omega) [a2,ew,t1,lm,bz,b4,nC,uE,ap,<-a_,f0,f5,f6,f7,f8,f20,f21,f22]));(try(refine al [0,5,6,7,8,20,21,22] ?_;intro F;simp only[ak];intro U ah ag ar ao bO dx cK;simp(disch:=omega) [a2,ew,t1,lm,bz,b4,nC,uE,ap,<-a_,f0,f5,f6,f7,f8,f20,f21,f22] at U ah ag ar ao bO dx cK;clear f0 f5 f6 f7 f8 f20 f21 f22;have f0:=U;have f5:=ah;have f6:=ag;have f7:=ar;have f8:=ao;have f20:=bO;have f21:=dx;have f22:=cK;clear U ah ag ar ao bO dx cK)))
        | (refine aJ _ (by simp(disch:=omega) [a2,ew,t1,lm,bz,b4,nC,uE,ap,<-a_,f0,f5,f6,f7,f8,f20,f21,f22];rfl) (fun I=>?_) (fun I=>?_)<;>first|(exfalso;simp(disch:=omega) [a2,ew,t1,lm,bz,b4,nC,uE,ap,<-a_] at I;done)|(exfalso;simp at I;omega)|(simp at I))
        | ((first|refine aH ?_|refine aN ?_);simp(disch:=omega) [a2,ew,t1,lm,bz,b4,nC,uE,ap,<-a_,f0,f5,f6,f7,f8,f20,f21,f22]))
       show eE 1 _ (F 7) _
       rw[f7,Rs]
       exact cd _ _ _ _ _ (by omega) (by omega)
     · have rl:i=L - w:=by omega
       subst rl
       repeat' (first
        | refine ax ?_
        | ((fail_if_success (refine aQ ?_));(fail_if_success (refine aR ?_));refine aL ?_)
        | ((first|(refine az aM ?_;simp(disch:=omega) [a2,f0,f5,f6,f7,f8,f20,f21,f22];(try(refine⟨by first|decide|rfl,?_⟩)))|(refine aK ?_;simp(disch:=omega) [a2,f0,f5,f6,f7,f8,f20,f21,f22]));(try(refine al [0,5,6,7,8,20,21,22] ?_;intro F;simp only[ak];intro U ah ag ar ao bO dx cK;simp(disch:=omega) [a2,f0,f5,f6,f7,f8,f20,f21,f22] at U ah ag ar ao bO dx cK;clear f0 f5 f6 f7 f8 f20 f21 f22;have f0:=U;have f5:=ah;have f6:=ag;have f7:=ar;have f8:=ao;have f20:=bO;have f21:=dx;have f22:=cK;clear U ah ag ar ao bO dx cK)))
        | (refine aJ _ (by simp(disch:=omega) [a2,f0,f5,f6,f7,f8,f20,f21,f22];rfl) (fun I=>?_) (fun I=>?_)<;>first|(exfalso;simp(disch:=omega) [a2] at I;done)|(exfalso;simp at I;omega)|(simp at I))
        | ((first|refine aH ?_|refine aN ?_);simp(disch:=omega) [a2,f0,f5,f6,f7,f8,f20,f21,f22]))
       show eE 1 _ (F 7) _
       rw[f7]
       exact a3.bump _ (by omega)
   · intro s aI a3
     clear f7 f21
     unfold yV at a3
     obtain⟨v,aY⟩:∃v,v=s.F 7:=⟨_,rfl⟩
     rw[<-aY] at a3
     have f7:=aY.symm
     obtain⟨ids,a4⟩:=a3.out (wI _)
     have yW:=B8 (a/2^n) (L - w)
     have cS:=pR (l:=mW (a/2^n) (L - w)) (e:=decide (((mW (a/2^n) (L - w)).map fun n=>J.int .u32 (Z n))= [])) (Rm _ _) (by omega)
     have IQ:a/2^n<aE (L - w):=by
      rw[Ca,<-Nat.div_div_eq_div_mul]
      refine Nat.lt_of_le_of_lt (Nat.div_le_self _ _) ?_
      rw[Nat.div_lt_iff_lt_mul (kO w),<-hg,show L - w+w=L by omega]
      exact aU
     rw[IN,Nat.mod_eq_of_lt IQ] at cS
     refine al [4,7] ?_
     intro F
     simp only[ak]
     intro ad ar
     try simp[aS,f7] at ad ar
     clear f7
     have f4:=ad
     have f7:=ar
     clear ad ar
     generalize ((mW (a/2^n) (L - w)).map fun n=>J.int .u32 (Z n))=xs at*
     repeat' (first
      | refine ax ?_
      | ((fail_if_success (refine aQ ?_));(fail_if_success (refine aR ?_));refine aL ?_)
      | ((first|(refine az aM ?_;simp(disch:=omega) [a4,cS,f4,f7];(try(refine⟨by first|decide|rfl,?_⟩)))|(refine aK ?_;simp(disch:=omega) [a4,cS,f4,f7]));(try(refine al [4,7] ?_;intro F;simp only[ak];intro ad ar;simp(disch:=omega) [a4,cS,f4,f7] at ad ar;clear f4 f7;have f4:=ad;have f7:=ar;clear ad ar)))
      | (refine aJ _ (by simp(disch:=omega) [a4,cS,f4,f7];rfl) (fun I=>?_) (fun I=>?_)<;>first|(exfalso;simp(disch:=omega) [a4,cS] at I;done)|(exfalso;simp at I;omega)|(simp at I))
      | ((first|refine aH ?_|refine aN ?_);simp(disch:=omega) [a4,cS,f4,f7]))
noncomputable def nD:List J->Option J:=cl (fun z:Nat=>z<18446744073709551616) (fun z=>[e3 z]) (fun z=>aw z)
theorem wY (z:Nat) (h:z<18446744073709551616) {args:List J} (he:args.map J.loose= [e3 z]):nD args=some (aw z):=cI (fun z w h=>by first|(simp only[List.cons.injEq,J.int.injEq,J.bool.injEq,J.sl.injEq,bT,bU,bY,bZ,bX,bG,bL,bV,bI,true_and,and_true] at h;simp[h];done)|(simp only[J.agg.injEq,List.cons.injEq,J.int.injEq,J.bool.injEq,J.sl.injEq,bT,bU,bY,bZ,bX,bG,bL,bV,bI,true_and,and_true] at h;simp[h])) z h he
theorem wZ:bl Tryz.prog G 51 nD:=by
 refine cJ mixed B_ Gf fun n aC=>?_
 have e:=pR (l:=[n%4294967296,n/4294967296]) (e:=true) (mi.2 ⟨by omega,mi.2 ⟨by omega,Small.nil⟩⟩) (by simp)
 rw[val_two aC] at e
 simp only[List.map_cons,List.map_nil] at e
 have ae:n/4294967296%4294967296=n/4294967296:=Nat.mod_eq_of_lt (by omega)
 unfold i51
 refine al [0,2] fun F=>?_
 simp only[ak]
 intro f0 f2
 simp[a8] at f0 f2
 repeat' (first
  | refine ax ?_
  | ((fail_if_success (refine aQ ?_));(fail_if_success (refine aR ?_));refine aL ?_)
  | ((first|(refine az aM ?_;simp(disch:=omega) [e,ae,f0,f2];(try(refine⟨by first|decide|rfl,?_⟩)))|(refine aK ?_;simp(disch:=omega) [e,ae,f0,f2]));(try(refine al [0,2] ?_;intro F;simp only[ak];intro U aa;simp(disch:=omega) [e,ae,f0,f2] at U aa;clear f0 f2;have f0:=U;have f2:=aa;clear U aa)))
  | (refine aJ _ (by simp(disch:=omega) [e,ae,f0,f2];rfl) (fun I=>?_) (fun I=>?_)<;>first|(exfalso;simp(disch:=omega) [e,ae] at I;done)|(exfalso;simp at I;omega)|(simp at I))
  | ((first|refine aH ?_|refine aN ?_);simp(disch:=omega) [e,ae,f0,f2]))
noncomputable def uF:List J->Option J:=cl (fun z:List Nat=>z.length<=1000000000) (fun z=>[cH z false]) (fun z=> .bool (nv z))
theorem Rt (z:List Nat) (h:z.length<=1000000000) {args:List J} (he:args.map J.loose= [cH z false]):uF args=some (.bool (nv z)):=cI (fun z w h=>by first|(simp only[List.cons.injEq,J.int.injEq,J.bool.injEq,J.sl.injEq,bT,bU,bY,bZ,bX,bG,bL,bV,bI,true_and,and_true] at h;simp[h];done)|(simp only[J.agg.injEq,List.cons.injEq,J.int.injEq,J.bool.injEq,J.sl.injEq,bT,bU,bY,bZ,bX,bG,bL,bV,bI,true_and,and_true] at h;simp[h])) z h he
theorem IS:bl Tryz.prog G 44 uF:=by
 refine cJ mixed B_ Ga fun l a6=>?_
 unfold i44
 by_cases ae:l= []
 · subst ae
   have e:nv []=true:=rfl
   refine al [0,2] fun F=>?_
   simp only[ak]
   intro f0 f2
   simp[a8] at f0 f2
   repeat' (first
    | refine ax ?_
    | ((fail_if_success (refine aQ ?_));(fail_if_success (refine aR ?_));refine aL ?_)
    | ((first|(refine az aM ?_;simp(disch:=omega) [f0,f2];(try(refine⟨by first|decide|rfl,?_⟩)))|(refine aK ?_;simp(disch:=omega) [f0,f2]));(try(refine al [0,2] ?_;intro F;simp only[ak];intro U aa;simp(disch:=omega) [f0,f2] at U aa;clear f0 f2;have f0:=U;have f2:=aa;clear U aa)))
    | (refine aJ _ (by simp(disch:=omega) [f0,f2];rfl) (fun I=>?_) (fun I=>?_)<;>first|(exfalso;simp(disch:=omega) at I;done)|(exfalso;simp at I;omega)|(simp at I))
    | ((first|refine aH ?_|refine aN ?_);simp(disch:=omega) [f0,f2,e]))
 · obtain⟨L,a_⟩:∃L,l.length=L+1:=⟨l.length - 1,by have:=List.length_pos_iff.2 ae;omega⟩
   have bq:=(k4 (show L<l.length by omega)).symm
   have e:nv l=decide (L+1<=65536/\a5 l L≠0):=by simp[nv,ae,a_]
   by_cases h2:L+1<=65536
   · by_cases aO:a5 l L=0
     · skip
       refine al [0,2] fun F=>?_
       simp only[ak]
       intro f0 f2
       simp[a8] at f0 f2
       repeat' (first
        | refine ax ?_
        | ((fail_if_success (refine aQ ?_));(fail_if_success (refine aR ?_));refine aL ?_)
        | ((first|(refine az aM ?_;simp(disch:=omega) [ae,a_,h2,bq,aO,bne,eh,f0,f2];(try(refine⟨by first|decide|rfl,?_⟩)))|(refine aK ?_;simp(disch:=omega) [ae,a_,h2,bq,aO,bne,eh,f0,f2]));(try(refine al [0,2] ?_;intro F;simp only[ak];intro U aa;simp(disch:=omega) [ae,a_,h2,bq,aO,bne,eh,f0,f2] at U aa;clear f0 f2;have f0:=U;have f2:=aa;clear U aa)))
        | (refine aJ _ (by simp(disch:=omega) [ae,a_,h2,bq,aO,bne,eh,f0,f2];rfl) (fun I=>?_) (fun I=>?_)<;>first|(exfalso;simp(disch:=omega) [ae,a_,h2,bq,aO,bne,eh] at I;done)|(exfalso;simp at I;omega)|(simp at I))
        | ((first|refine aH ?_|refine aN ?_);simp(disch:=omega) [ae,a_,h2,bq,aO,bne,eh,f0,f2,e]))
     · skip
       refine al [0,2] fun F=>?_
       simp only[ak]
       intro f0 f2
       simp[a8] at f0 f2
       repeat' (first
        | refine ax ?_
        | ((fail_if_success (refine aQ ?_));(fail_if_success (refine aR ?_));refine aL ?_)
        | ((first|(refine az aM ?_;simp(disch:=omega) [ae,a_,h2,bq,aO,bne,eh,f0,f2];(try(refine⟨by first|decide|rfl,?_⟩)))|(refine aK ?_;simp(disch:=omega) [ae,a_,h2,bq,aO,bne,eh,f0,f2]));(try(refine al [0,2] ?_;intro F;simp only[ak];intro U aa;simp(disch:=omega) [ae,a_,h2,bq,aO,bne,eh,f0,f2] at U aa;clear f0 f2;have f0:=U;have f2:=aa;clear U aa)))
        | (refine aJ _ (by simp(disch:=omega) [ae,a_,h2,bq,aO,bne,eh,f0,f2];rfl) (fun I=>?_) (fun I=>?_)<;>first|(exfalso;simp(disch:=omega) [ae,a_,h2,bq,aO,bne,eh] at I;done)|(exfalso;simp at I;omega)|(simp at I))
        | ((first|refine aH ?_|refine aN ?_);simp(disch:=omega) [ae,a_,h2,bq,aO,bne,eh,f0,f2,e]))
   · skip
     refine al [0,2] fun F=>?_
     simp only[ak]
     intro f0 f2
     simp[a8] at f0 f2
     repeat' (first
      | refine ax ?_
      | ((fail_if_success (refine aQ ?_));(fail_if_success (refine aR ?_));refine aL ?_)
      | ((first|(refine az aM ?_;simp(disch:=omega) [ae,a_,h2,f0,f2];(try(refine⟨by first|decide|rfl,?_⟩)))|(refine aK ?_;simp(disch:=omega) [ae,a_,h2,f0,f2]));(try(refine al [0,2] ?_;intro F;simp only[ak];intro U aa;simp(disch:=omega) [ae,a_,h2,f0,f2] at U aa;clear f0 f2;have f0:=U;have f2:=aa;clear U aa)))
      | (refine aJ _ (by simp(disch:=omega) [ae,a_,h2,f0,f2];rfl) (fun I=>?_) (fun I=>?_)<;>first|(exfalso;simp(disch:=omega) [ae,a_,h2] at I;done)|(exfalso;simp at I;omega)|(simp at I))
      | ((first|refine aH ?_|refine aN ?_);simp(disch:=omega) [ae,a_,h2,f0,f2,e]))
end
section
attribute [local irreducible] cQ
attribute [local simp] ek eL du
def gV (z:Int):Int:=if z=0 then 0 else if z<0 then -1 else 1
theorem Ru {a:Int} {k:Nat}:bS a<=k↔a.natAbs<aE k:=c8
theorem Rv (a:Int):bS (-a)=bS a:=by simp[bS]
theorem Rw (a b:Int):bS (a+b)<=max (bS a) (bS b)+1:=by
 have ae:(a+b).natAbs<=a.natAbs+b.natAbs:=Int.natAbs_add_le a b
 have h2:=k5 a.natAbs b.natAbs
 have aO:=f_ ae
 simp only[bS] at*;omega
theorem pc (a b:Int):bS (a*b)<=bS a+bS b:=by
 have:=hC a.natAbs b.natAbs
 rwa [<-Int.natAbs_mul] at this
theorem yX (b:Bool) (n:Nat):bS (db b n)=(ai n).length:=by rw[bS,B7]
noncomputable def IT:FuncId->Option (List J->Option J):=da [(98,ln)]
theorem Rx:∀f T,IT f=some T->bl Tryz.prog G f T:=dc (by simp only[List.forall_mem_cons];exact ⟨qt,fun _ h=>absurd h (by simp)⟩)
theorem Ry:IT 98=some ln:=rfl
attribute [local simp] Ry
noncomputable def nE:List J->Option J:=cl (fun z:Bool × List Nat=>Small z.2/\z.2.length<=1073741824) (fun z=>[.bool z.1,cH z.2 false]) (fun z=>a7 (db z.1 (val z.2)))
theorem IU (z:Bool × List Nat) (h:Small z.2/\z.2.length<=1073741824) {args:List J} (he:args.map J.loose= [.bool z.1,cH z.2 false]):nE args=some (a7 (db z.1 (val z.2))):=cI (fun z w h=>by first|(simp only[List.cons.injEq,J.int.injEq,J.bool.injEq,J.sl.injEq,bT,bU,bY,bZ,bX,bG,bL,bV,bI,true_and,and_true] at h;simp[h];done)|(simp only[J.agg.injEq,List.cons.injEq,J.int.injEq,J.bool.injEq,J.sl.injEq,bT,bU,bY,bZ,bX,bG,bL,bV,bI,true_and,and_true] at h;simp[h])) z h he
theorem w0:bl Tryz.prog G 97 nE:=by
 refine cJ mixed Rx GI fun z aV=>?_
 obtain⟨b,l⟩:=z
 obtain⟨aP,a6⟩:=aV
 simp only at aP a6|-
 have t:=pR (e:=false) aP a6
 have ba:=IK b (val l)
 have br:=B7 b (val l)
 unfold i97
 by_cases aY:val l=0
 · have aC:ai (val l)= []:=g3.2 aY
   have bw:decide (val l≠0)=false:=decide_eq_false (fun h=>h aY)
   rw[bw] at ba
   cases b
   · skip
     refine al [0,1,4,5] fun F=>?_
     simp only[ak]
     intro f0 f1 f4 f5
     simp[a8] at f0 f1 f4 f5
     repeat' (first
      | refine ax ?_
      | ((fail_if_success (refine aQ ?_));(fail_if_success (refine aR ?_));refine aL ?_)
      | ((first|(refine az aM ?_;simp(disch:=omega) [t,aC,f0,f1,f4,f5];(try(refine⟨by first|decide|rfl,?_⟩)))|(refine aK ?_;simp(disch:=omega) [t,aC,f0,f1,f4,f5]));(try(refine al [0,1,4,5] ?_;intro F;simp only[ak];intro U ab ad ah;simp(disch:=omega) [t,aC,f0,f1,f4,f5] at U ab ad ah;clear f0 f1 f4 f5;have f0:=U;have f1:=ab;have f4:=ad;have f5:=ah;clear U ab ad ah)))
      | (refine aJ _ (by simp(disch:=omega) [t,aC,f0,f1,f4,f5];rfl) (fun I=>?_) (fun I=>?_)<;>first|(exfalso;simp(disch:=omega) [t,aC] at I;done)|(exfalso;simp at I;omega)|(simp at I))
      | ((first|refine aH ?_|refine aN ?_);simp(disch:=omega) [t,aC,f0,f1,f4,f5,ba,br]))
   · skip
     refine al [0,1,4,5] fun F=>?_
     simp only[ak]
     intro f0 f1 f4 f5
     simp[a8] at f0 f1 f4 f5
     repeat' (first
      | refine ax ?_
      | ((fail_if_success (refine aQ ?_));(fail_if_success (refine aR ?_));refine aL ?_)
      | ((first|(refine az aM ?_;simp(disch:=omega) [t,aC,f0,f1,f4,f5];(try(refine⟨by first|decide|rfl,?_⟩)))|(refine aK ?_;simp(disch:=omega) [t,aC,f0,f1,f4,f5]));(try(refine al [0,1,4,5] ?_;intro F;simp only[ak];intro U ab ad ah;simp(disch:=omega) [t,aC,f0,f1,f4,f5] at U ab ad ah;clear f0 f1 f4 f5;have f0:=U;have f1:=ab;have f4:=ad;have f5:=ah;clear U ab ad ah)))
      | (refine aJ _ (by simp(disch:=omega) [t,aC,f0,f1,f4,f5];rfl) (fun I=>?_) (fun I=>?_)<;>first|(exfalso;simp(disch:=omega) [t,aC] at I;done)|(exfalso;simp at I;omega)|(simp at I))
      | ((first|refine aH ?_|refine aN ?_);simp(disch:=omega) [t,aC,f0,f1,f4,f5,ba,br]))
 · have aC:0<(ai (val l)).length:=lk.2 aY
   have eC:¬ai (val l)= []:=fun h=>aY (g3.1 h)
   have bw:decide (val l≠0)=true:=decide_eq_true aY
   rw[bw] at ba
   cases b
   · skip
     refine al [0,1,4,5] fun F=>?_
     simp only[ak]
     intro f0 f1 f4 f5
     simp[a8] at f0 f1 f4 f5
     repeat' (first
      | refine ax ?_
      | ((fail_if_success (refine aQ ?_));(fail_if_success (refine aR ?_));refine aL ?_)
      | ((first|(refine az aM ?_;simp(disch:=omega) [t,aC,f0,f1,f4,f5];(try(refine⟨by first|decide|rfl,?_⟩)))|(refine aK ?_;simp(disch:=omega) [t,aC,f0,f1,f4,f5]));(try(refine al [0,1,4,5] ?_;intro F;simp only[ak];intro U ab ad ah;simp(disch:=omega) [t,aC,f0,f1,f4,f5] at U ab ad ah;clear f0 f1 f4 f5;have f0:=U;have f1:=ab;have f4:=ad;have f5:=ah;clear U ab ad ah)))
      | (refine aJ _ (by simp(disch:=omega) [t,aC,f0,f1,f4,f5];rfl) (fun I=>?_) (fun I=>?_)<;>first|(exfalso;simp(disch:=omega) [t,aC] at I;done)|(exfalso;simp at I;omega)|(simp at I))
      | ((first|refine aH ?_|refine aN ?_);simp(disch:=omega) [t,aC,f0,f1,f4,f5,ba,br]))
   · skip
     refine al [0,1,4,5] fun F=>?_
     simp only[ak]
     intro f0 f1 f4 f5
     simp[a8] at f0 f1 f4 f5
     repeat' (first
      | refine ax ?_
      | ((fail_if_success (refine aQ ?_));(fail_if_success (refine aR ?_));refine aL ?_)
      | ((first|(refine az aM ?_;simp(disch:=omega) [t,aC,eC,f0,f1,f4,f5];(try(refine⟨by first|decide|rfl,?_⟩)))|(refine aK ?_;simp(disch:=omega) [t,aC,eC,f0,f1,f4,f5]));(try(refine al [0,1,4,5] ?_;intro F;simp only[ak];intro U ab ad ah;simp(disch:=omega) [t,aC,eC,f0,f1,f4,f5] at U ab ad ah;clear f0 f1 f4 f5;have f0:=U;have f1:=ab;have f4:=ad;have f5:=ah;clear U ab ad ah)))
      | (refine aJ _ (by simp(disch:=omega) [t,aC,eC,f0,f1,f4,f5];rfl) (fun I=>?_) (fun I=>?_)<;>first|(exfalso;simp(disch:=omega) [t,aC,eC] at I;done)|(exfalso;simp at I;omega)|(simp at I))
      | ((first|refine aH ?_|refine aN ?_);simp(disch:=omega) [t,aC,eC,f0,f1,f4,f5,ba,br]))
theorem sU {b:Bool} {n:Nat} (h:(ai n).length<=1073741824):nE [.bool b,aw n]=some (a7 (db b n)):=by
 rw[IU (b,ai n) ⟨dW n,h⟩ (by simp),du]
noncomputable def sV:FuncId->Option (List J->Option J):=da [(97,nE),(51,nD),(45,mz),(80,hi),(107,ow),(44,uF)]
theorem Cb:∀f T,sV f=some T->bl Tryz.prog G f T:=dc (by simp only[List.forall_mem_cons];exact ⟨w0,wZ,sN,sR,wT,IS,fun _ h=>absurd h (by simp)⟩)
theorem Rz:sV 97=some nE:=rfl
theorem RA:sV 51=some nD:=rfl
theorem RB:sV 45=some mz:=rfl
theorem RC:sV 80=some hi:=rfl
theorem RD:sV 107=some ow:=rfl
theorem RE:sV 44=some uF:=rfl
attribute [local simp] Rz RA RB RC RD RE
noncomputable def ox:List J->Option J:=cl (fun z:Int=>True) (fun z=>[a7 z]) (fun z=> .int .i64 (gV z))
theorem yY (z:Int) (h:True) {args:List J} (he:args.map J.loose= [a7 z]):ox args=some (.int .i64 (gV z)):=cI (fun z w h=>by first|(simp only[List.cons.injEq,J.int.injEq,J.bool.injEq,J.sl.injEq,bT,bU,bY,bZ,bX,bG,bL,bV,bI,true_and,and_true] at h;simp[h];done)|(simp only[J.agg.injEq,List.cons.injEq,J.int.injEq,J.bool.injEq,J.sl.injEq,bT,bU,bY,bZ,bX,bG,bL,bV,bI,true_and,and_true] at h;simp[h])) z h he
theorem w1:bl Tryz.prog G 77 ox:=by
 refine cJ mixed Cb Gv fun z _=>?_
 unfold i77
 by_cases aS:z=0
 · subst aS
   have bM:ai 0= []:=eX
   have b7:b' 0=false:=rfl
   have e:gV 0=Z 0:=rfl
   refine al [0,1,2,3,8] fun F=>?_
   simp only[ak]
   intro f0 f1 f2 f3 f8
   simp[a8] at f0 f1 f2 f3 f8
   repeat' (first
    | refine ax ?_
    | ((fail_if_success (refine aQ ?_));(fail_if_success (refine aR ?_));refine aL ?_)
    | ((first|(refine az aM ?_;simp(disch:=omega) [bM,b7,f0,f1,f2,f3,f8];(try(refine⟨by first|decide|rfl,?_⟩)))|(refine aK ?_;simp(disch:=omega) [bM,b7,f0,f1,f2,f3,f8]));(try(refine al [0,1,2,3,8] ?_;intro F;simp only[ak];intro U ab aa af ao;simp(disch:=omega) [bM,b7,f0,f1,f2,f3,f8] at U ab aa af ao;clear f0 f1 f2 f3 f8;have f0:=U;have f1:=ab;have f2:=aa;have f3:=af;have f8:=ao;clear U ab aa af ao)))
    | (refine aJ _ (by simp(disch:=omega) [bM,b7,f0,f1,f2,f3,f8];rfl) (fun I=>?_) (fun I=>?_)<;>first|(exfalso;simp(disch:=omega) [bM,b7] at I;done)|(exfalso;simp at I;omega)|(simp at I))
    | ((first|refine aH ?_|refine aN ?_);simp(disch:=omega) [bM,b7,f0,f1,f2,f3,f8,e]))
 · have aC:¬ai z.natAbs= []:=fun h=>aS (by have:=g3.1 h;omega)
   have eC:¬(ai z.natAbs).length=0:=fun h=>aC (List.length_eq_zero_iff.1 h)
   by_cases ae:z<0
   · have e:gV z= -1:=by simp[gV,aS,ae]
     have aV:b' z=true:=by simp[b',ae]
     refine al [0,1,2,3,8] fun F=>?_
     simp only[ak]
     intro f0 f1 f2 f3 f8
     simp[a8] at f0 f1 f2 f3 f8
     repeat' (first
      | refine ax ?_
      | ((fail_if_success (refine aQ ?_));(fail_if_success (refine aR ?_));refine aL ?_)
      | ((first|(refine az aM ?_;simp(disch:=omega) [aC,eC,aV,f0,f1,f2,f3,f8];(try(refine⟨by first|decide|rfl,?_⟩)))|(refine aK ?_;simp(disch:=omega) [aC,eC,aV,f0,f1,f2,f3,f8]));(try(refine al [0,1,2,3,8] ?_;intro F;simp only[ak];intro U ab aa af ao;simp(disch:=omega) [aC,eC,aV,f0,f1,f2,f3,f8] at U ab aa af ao;clear f0 f1 f2 f3 f8;have f0:=U;have f1:=ab;have f2:=aa;have f3:=af;have f8:=ao;clear U ab aa af ao)))
      | (refine aJ _ (by simp(disch:=omega) [aC,eC,aV,f0,f1,f2,f3,f8];rfl) (fun I=>?_) (fun I=>?_)<;>first|(exfalso;simp(disch:=omega) [aC,eC,aV] at I;done)|(exfalso;simp at I;omega)|(simp at I))
      | ((first|refine aH ?_|refine aN ?_);simp(disch:=omega) [aC,eC,aV,f0,f1,f2,f3,f8,e]))
   · have e:gV z=1:=by simp[gV,aS,ae]
     have aV:b' z=false:=by simp[b',ae]
     refine al [0,1,2,3,8] fun F=>?_
     simp only[ak]
     intro f0 f1 f2 f3 f8
     simp[a8] at f0 f1 f2 f3 f8
     repeat' (first
      | refine ax ?_
      | ((fail_if_success (refine aQ ?_));(fail_if_success (refine aR ?_));refine aL ?_)
      | ((first|(refine az aM ?_;simp(disch:=omega) [aC,eC,aV,f0,f1,f2,f3,f8];(try(refine⟨by first|decide|rfl,?_⟩)))|(refine aK ?_;simp(disch:=omega) [aC,eC,aV,f0,f1,f2,f3,f8]));(try(refine al [0,1,2,3,8] ?_;intro F;simp only[ak];intro U ab aa af ao;simp(disch:=omega) [aC,eC,aV,f0,f1,f2,f3,f8] at U ab aa af ao;clear f0 f1 f2 f3 f8;have f0:=U;have f1:=ab;have f2:=aa;have f3:=af;have f8:=ao;clear U ab aa af ao)))
      | (refine aJ _ (by simp(disch:=omega) [aC,eC,aV,f0,f1,f2,f3,f8];rfl) (fun I=>?_) (fun I=>?_)<;>first|(exfalso;simp(disch:=omega) [aC,eC,aV] at I;done)|(exfalso;simp at I;omega)|(simp at I))
      | ((first|refine aH ?_|refine aN ?_);simp(disch:=omega) [aC,eC,aV,f0,f1,f2,f3,f8,e]))
noncomputable def rr:List J->Option J:=cl (fun z:Int=>bS z<=100000000) (fun z=>[a7 z]) (fun z=>a7 (-z))
theorem RF (z:Int) (h:bS z<=100000000) {args:List J} (he:args.map J.loose= [a7 z]):rr args=some (a7 (-z)):=cI (fun z w h=>by first|(simp only[List.cons.injEq,J.int.injEq,J.bool.injEq,J.sl.injEq,bT,bU,bY,bZ,bX,bG,bL,bV,bI,true_and,and_true] at h;simp[h];done)|(simp only[J.agg.injEq,List.cons.injEq,J.int.injEq,J.bool.injEq,J.sl.injEq,bT,bU,bY,bZ,bX,bG,bL,bV,bI,true_and,and_true] at h;simp[h])) z h he
theorem Cc:bl Tryz.prog G 103 rr:=by
 refine cJ mixed Cb GN fun z aV=>?_
 simp only[bS] at aV
 have t:=sU (b:=!b' z) (n:=z.natAbs) (by omega)
 rw[show db (!b' z) z.natAbs= -z by simp only[db,b',Bool.not_eq_true',decide_eq_false_iff_not];split<;>omega] at t
 unfold i103
 generalize aU:b' z=s at*
 generalize eO:z.natAbs=n at*
 generalize -z=w at*
 refine al [0,1,2] fun F=>?_
 simp only[ak]
 intro f0 f1 f2
 simp[a8] at f0 f1 f2
 repeat' (first
  | refine ax ?_
  | ((fail_if_success (refine aQ ?_));(fail_if_success (refine aR ?_));refine aL ?_)
  | ((first|(refine az aM ?_;simp(disch:=omega) [aU,eO,t,f0,f1,f2];(try(refine⟨by first|decide|rfl,?_⟩)))|(refine aK ?_;simp(disch:=omega) [aU,eO,t,f0,f1,f2]));(try(refine al [0,1,2] ?_;intro F;simp only[ak];intro U ab aa;simp(disch:=omega) [aU,eO,t,f0,f1,f2] at U ab aa;clear f0 f1 f2;have f0:=U;have f1:=ab;have f2:=aa;clear U ab aa)))
  | (refine aJ _ (by simp(disch:=omega) [aU,eO,t,f0,f1,f2];rfl) (fun I=>?_) (fun I=>?_)<;>first|(exfalso;simp(disch:=omega) [aU,eO,t] at I;done)|(exfalso;simp at I;omega)|(simp at I))
  | ((first|refine aH ?_|refine aN ?_);simp(disch:=omega) [aU,eO,t,f0,f1,f2]))
def f' (a b:Int):Int:=if a<b then -1 else if b<a then 1 else 0
noncomputable def pd:List J->Option J:=cl (fun z:Int × Int=>bS z.1<=100000000/\bS z.2<=100000000) (fun z=>[a7 z.1,a7 z.2]) (fun z=> .int .i64 (f' z.1 z.2))
theorem Cd (z:Int × Int) (h:bS z.1<=100000000/\bS z.2<=100000000) {args:List J} (he:args.map J.loose= [a7 z.1,a7 z.2]):pd args=some (.int .i64 (f' z.1 z.2)):=cI (fun z w h=>by first|(simp only[List.cons.injEq,J.int.injEq,J.bool.injEq,J.sl.injEq,bT,bU,bY,bZ,bX,bG,bL,bV,bI,true_and,and_true] at h;simp[h];done)|(simp only[J.agg.injEq,List.cons.injEq,J.int.injEq,J.bool.injEq,J.sl.injEq,bT,bU,bY,bZ,bX,bG,bL,bV,bI,true_and,and_true] at h;simp[h])) z h he
theorem yZ:bl Tryz.prog G 78 pd:=by
 refine cJ mixed Cb Gw fun z aV=>?_
 obtain⟨a,b⟩:=z
 obtain⟨bF,au⟩:=aV
 simp only[bS] at bF au|-
 have t1:=qu (a:=a.natAbs) (b:=b.natAbs) (e:=false) (e':=false) (by omega) (by omega)
 have t2:=qu (a:=b.natAbs) (b:=a.natAbs) (e:=false) (e':=false) (by omega) (by omega)
 unfold i78
 by_cases ae:a<0<;>by_cases h2:b<0
 all_goals have b7:b' a=decide (a<0):=rfl
 all_goals have c3:b' b=decide (b<0):=rfl
 all_goals simp only[ae,h2,decide_true,decide_false] at b7 c3
 · have e:cT b.natAbs a.natAbs=f' a b:=by simp only[cT,f'];split<;>split<;>first|rfl|omega|(split<;>first|rfl|omega)
   refine al [0,1,2,3,4,5,17,20] fun F=>?_
   simp only[ak]
   intro f0 f1 f2 f3 f4 f5 f17 f20
   simp[a8] at f0 f1 f2 f3 f4 f5 f17 f20
   repeat' (first
    | refine ax ?_
    | ((fail_if_success (refine aQ ?_));(fail_if_success (refine aR ?_));refine aL ?_)
    | ((first|(refine az aM ?_;simp(disch:=omega) [t1,t2,b7,c3,e,f0,f1,f2,f3,f4,f5,f17,f20];(try(refine⟨by first|decide|rfl,?_⟩)))|(refine aK ?_;simp(disch:=omega) [t1,t2,b7,c3,e,f0,f1,f2,f3,f4,f5,f17,f20]));(try(refine al [0,1,2,3,4,5,17,20] ?_;intro F;simp only[ak];intro U ab aa af ad ah bx bO;simp(disch:=omega) [t1,t2,b7,c3,e,f0,f1,f2,f3,f4,f5,f17,f20] at U ab aa af ad ah bx bO;clear f0 f1 f2 f3 f4 f5 f17 f20;have f0:=U;have f1:=ab;have f2:=aa;have f3:=af;have f4:=ad;have f5:=ah;have f17:=bx;have f20:=bO;clear U ab aa af ad ah bx bO)))
    | (refine aJ _ (by simp(disch:=omega) [t1,t2,b7,c3,e,f0,f1,f2,f3,f4,f5,f17,f20];rfl) (fun I=>?_) (fun I=>?_)<;>first|(exfalso;simp(disch:=omega) [t1,t2,b7,c3,e] at I;done)|(exfalso;simp at I;omega)|(simp at I))
    | ((first|refine aH ?_|refine aN ?_);simp(disch:=omega) [t1,t2,b7,c3,e,f0,f1,f2,f3,f4,f5,f17,f20]))
 · have e:f' a b= -1:=by simp only[f'];rw[if_pos (by omega)]
   refine al [0,1,2,3,4,5,17,20] fun F=>?_
   simp only[ak]
   intro f0 f1 f2 f3 f4 f5 f17 f20
   simp[a8] at f0 f1 f2 f3 f4 f5 f17 f20
   repeat' (first
    | refine ax ?_
    | ((fail_if_success (refine aQ ?_));(fail_if_success (refine aR ?_));refine aL ?_)
    | ((first|(refine az aM ?_;simp(disch:=omega) [b7,c3,e,f0,f1,f2,f3,f4,f5,f17,f20];(try(refine⟨by first|decide|rfl,?_⟩)))|(refine aK ?_;simp(disch:=omega) [b7,c3,e,f0,f1,f2,f3,f4,f5,f17,f20]));(try(refine al [0,1,2,3,4,5,17,20] ?_;intro F;simp only[ak];intro U ab aa af ad ah bx bO;simp(disch:=omega) [b7,c3,e,f0,f1,f2,f3,f4,f5,f17,f20] at U ab aa af ad ah bx bO;clear f0 f1 f2 f3 f4 f5 f17 f20;have f0:=U;have f1:=ab;have f2:=aa;have f3:=af;have f4:=ad;have f5:=ah;have f17:=bx;have f20:=bO;clear U ab aa af ad ah bx bO)))
    | (refine aJ _ (by simp(disch:=omega) [b7,c3,e,f0,f1,f2,f3,f4,f5,f17,f20];rfl) (fun I=>?_) (fun I=>?_)<;>first|(exfalso;simp(disch:=omega) [b7,c3,e] at I;done)|(exfalso;simp at I;omega)|(simp at I))
    | ((first|refine aH ?_|refine aN ?_);simp(disch:=omega) [b7,c3,e,f0,f1,f2,f3,f4,f5,f17,f20]))
 · have e:f' a b=1:=by simp only[f'];rw[if_neg (by omega),if_pos (by omega)]
   refine al [0,1,2,3,4,5,17,20] fun F=>?_
   simp only[ak]
   intro f0 f1 f2 f3 f4 f5 f17 f20
   simp[a8] at f0 f1 f2 f3 f4 f5 f17 f20
   repeat' (first
    | refine ax ?_
    | ((fail_if_success (refine aQ ?_));(fail_if_success (refine aR ?_));refine aL ?_)
    | ((first|(refine az aM ?_;simp(disch:=omega) [b7,c3,e,f0,f1,f2,f3,f4,f5,f17,f20];(try(refine⟨by first|decide|rfl,?_⟩)))|(refine aK ?_;simp(disch:=omega) [b7,c3,e,f0,f1,f2,f3,f4,f5,f17,f20]));(try(refine al [0,1,2,3,4,5,17,20] ?_;intro F;simp only[ak];intro U ab aa af ad ah bx bO;simp(disch:=omega) [b7,c3,e,f0,f1,f2,f3,f4,f5,f17,f20] at U ab aa af ad ah bx bO;clear f0 f1 f2 f3 f4 f5 f17 f20;have f0:=U;have f1:=ab;have f2:=aa;have f3:=af;have f4:=ad;have f5:=ah;have f17:=bx;have f20:=bO;clear U ab aa af ad ah bx bO)))
    | (refine aJ _ (by simp(disch:=omega) [b7,c3,e,f0,f1,f2,f3,f4,f5,f17,f20];rfl) (fun I=>?_) (fun I=>?_)<;>first|(exfalso;simp(disch:=omega) [b7,c3,e] at I;done)|(exfalso;simp at I;omega)|(simp at I))
    | ((first|refine aH ?_|refine aN ?_);simp(disch:=omega) [b7,c3,e,f0,f1,f2,f3,f4,f5,f17,f20]))
 · have e:cT a.natAbs b.natAbs=f' a b:=by simp only[cT,f'];split<;>split<;>first|rfl|omega|(split<;>first|rfl|omega)
   refine al [0,1,2,3,4,5,17,20] fun F=>?_
   simp only[ak]
   intro f0 f1 f2 f3 f4 f5 f17 f20
   simp[a8] at f0 f1 f2 f3 f4 f5 f17 f20
   repeat' (first
    | refine ax ?_
    | ((fail_if_success (refine aQ ?_));(fail_if_success (refine aR ?_));refine aL ?_)
    | ((first|(refine az aM ?_;simp(disch:=omega) [t1,t2,b7,c3,e,f0,f1,f2,f3,f4,f5,f17,f20];(try(refine⟨by first|decide|rfl,?_⟩)))|(refine aK ?_;simp(disch:=omega) [t1,t2,b7,c3,e,f0,f1,f2,f3,f4,f5,f17,f20]));(try(refine al [0,1,2,3,4,5,17,20] ?_;intro F;simp only[ak];intro U ab aa af ad ah bx bO;simp(disch:=omega) [t1,t2,b7,c3,e,f0,f1,f2,f3,f4,f5,f17,f20] at U ab aa af ad ah bx bO;clear f0 f1 f2 f3 f4 f5 f17 f20;have f0:=U;have f1:=ab;have f2:=aa;have f3:=af;have f4:=ad;have f5:=ah;have f17:=bx;have f20:=bO;clear U ab aa af ad ah bx bO)))
    | (refine aJ _ (by simp(disch:=omega) [t1,t2,b7,c3,e,f0,f1,f2,f3,f4,f5,f17,f20];rfl) (fun I=>?_) (fun I=>?_)<;>first|(exfalso;simp(disch:=omega) [t1,t2,b7,c3,e] at I;done)|(exfalso;simp at I;omega)|(simp at I))
    | ((first|refine aH ?_|refine aN ?_);simp(disch:=omega) [t1,t2,b7,c3,e,f0,f1,f2,f3,f4,f5,f17,f20]))
end
section
attribute [local irreducible] cQ
attribute [local simp] ek eL du yD yE yF
theorem IV {x y:Nat} (av:x<4294967296) (bj:y<4294967296):x*y<=18446744065119617025:=Nat.mul_le_mul (show x<=4294967295 by omega) (show y<=4294967295 by omega)
theorem IW {V hj P mY B Ce x r q ru gk c R u:Nat} (ae:hj+P*mY*Ce=V+P*mY*r) (av:x=ru*gk+Ce+c) (bw:x=B*q+r) (h:V+P*mY*c=R+P*(ru*u)):
 hj+P*mY*B*q=R+P*(ru*(u+mY*gk)):=by
 have aj:P*mY*x=P*mY*(ru*gk)+P*mY*Ce+P*mY*c:=by rw[av,Nat.mul_add,Nat.mul_add]
 have aq:P*mY*x=P*mY*B*q+P*mY*r:=by rw[bw,Nat.mul_add,Nat.mul_assoc (P*mY)]
 have aW:P*(ru*(u+mY*gk))=P*(ru*u)+P*mY*(ru*gk):=by
  rw[Nat.mul_add,Nat.mul_add]
  congr 1
  rw[Nat.mul_assoc P,Nat.mul_left_comm ru]
 omega
noncomputable def uG:List J->Option J:=cl (fun z:Nat × Nat=>(ai z.1).length<=100000000/\(ai z.2).length<=100000000) (fun z=>[aw z.1,aw z.2]) (fun z=>aw (z.1*z.2))
theorem IX {a b:Nat} {e e':Bool} (bF:(ai a).length<=100000000) (au:(ai b).length<=100000000):
 uG [.sl ((ai a).map fun n=> .int .u32 (Z n)) e,.sl ((ai b).map fun n=> .int .u32 (Z n)) e']=some (aw (a*b)):=
 cI (fun z w h=>by simp[bG,bL] at h;simp[h]) (a,b) ⟨bF,au⟩ (by simp)
structure y2 (a b:Nat) (i:Nat) (o:List Nat) (s:bg) (q:Nat):Prop where
 len:o.length=(ai a).length+(ai b).length
 mj:Small o
 aV:∀j,i+(ai b).length<=j->a5 o j=0
 f0:s.F 0=aw a
 f1:s.F 1=aw b
 f5:s.F 5= .ref q 0 ((ai a).length+(ai b).length) ((ai a).length+(ai b).length)
 f6:s.F 6=bp i
 cells:s.h.cells q=some (o.map fun n=> .int .u32 (Z n))
 bD:s.h.shut q=false
 fx:q<s.h.next
theorem IY:bl Tryz.prog G 89 uG:=by
 refine cJ mixed BN Pp fun z aV=>?_
 obtain⟨a,b⟩:=z
 obtain⟨cZ,cm⟩:=aV
 simp only at cZ cm|-
 have bF:=dW a
 have au:=dW b
 obtain⟨A,aU⟩:∃A,A=(ai a).length:=⟨_,rfl⟩
 obtain⟨B,a9⟩:∃B,B=(ai b).length:=⟨_,rfl⟩
 have Cf:a<aE A:=c8.1 (by omega)
 have Cg:b<aE B:=c8.1 (by omega)
 unfold i89
 refine ax (az aM ?_)
 simp[aS]
 refine ax (az aM ?_)
 simp[<-aU,<-a9,fa (show A+B<9223372036854775808 by omega),show Z (A+B)*4<=140737488355328 by simp only[Z];omega]
 refine ax (ax (az aM ?_))
 simp
 refine mg (id:=0) (fun m s=>∃i o q,m=A - i/\i<=A/\val o=a%aE i*b/\y2 a b i o s q) (fun s=>∃o q,val o=a*b/\y2 a b A o s q) (fun _=>False) A ?_ ?_ ?_ (fun _ h=>h.elim)
 · refine⟨0,List.replicate (A+B) 0,1+5,by omega,by omega,by simp[sG,fC,Nat.mod_one],⟨by simp[<-aU,<-a9],qs _,fun j _=>wN _ _,by simp,by simp,by simp[<-aU,<-a9],by simp,by simp,by simp,by simp⟩⟩
 · rintro m s ⟨i,o,q,rfl,an,aY,a3⟩
   refine ax (ax (az aM ?_))
   simp[a3.f0,a3.f6,<-aU]
   refine aJ _ rfl (fun I=>?_) (fun I=>?_)
   · have fj:i<A:=by simpa using I
     have av:=bF.a5 i
     have gW:=(k4 (show i<(ai a).length by omega)).symm
     have uH:=gv a i
     refine aK ?_
     simp
     refine ax (aL (ax (az aM ?_)))
     simp
     refine ax (ax (az aM ?_))
     simp
     generalize e4:a5 (ai a) i=x at*
     refine mg (id:=2) (fun m s=>∃k c o,m=B - k/\k<=B/\c<4294967296/\val o+aE i*aE k*c=a%aE i*b+aE i*(x*(b%aE k))/\y2 a b i o s q/\s.F 7=e3 c/\s.F 8=bp k)
      (fun s=>∃c o,c<4294967296/\val o+aE i*aE B*c=a%aE i*b+aE i*(x*b)/\y2 a b i o s q/\s.F 7=e3 c) (fun _=>False) B ?_ ?_ ?_ (fun _ h=>h.elim)
     · refine⟨0,0,o,by omega,by omega,by omega,by simp[aY,fC,Nat.mod_one],⟨a3.len,a3.mj,a3.aV,by simp[a3.f0],by simp[a3.f1],by simp[a3.f5],by simp[a3.f6],by simp[a3.cells],by simp[a3.bD],by have:=a3.fx;simp;omega⟩,by simp,by simp⟩
     · rintro m s ⟨k,c,o,rfl,aI,I,aY,a3,f7,f8⟩
       refine ax (ax (az aM ?_))
       simp[a3.f1,f8,<-a9]
       refine aJ _ rfl (fun hr=>?_) (fun hr=>?_)
       · have mC:k<B:=by simpa using hr
         have bj:=au.a5 k
         have mZ:=(k4 (show k<(ai b).length by omega)).symm
         have gH:=gv b k
         have a4:=a3.mj.a5 (i+k)
         have hh:=a3.len
         have go:=(k4 (show i+k<o.length by omega)).symm
         have ov:=a3.fx
         generalize gR:a5 (ai b) k=y at*
         generalize qz:a5 o (i+k)=z at*
         have np:=IV av bj
         have uI:x*y+z+c<18446744073709551616:=by omega
         have uJ:x*y+z<18446744073709551616:=by omega
         have mb:i+k<A+B:=by omega
         have f0:=a3.f0
         have f1:=a3.f1
         have f5:=a3.f5
         have f6:=a3.f6
         have cD:=a3.cells
         have dy:=a3.bD
         have h5:A+B<=o.length:=by omega
         refine al [0,1,5,6,7,8,9] ?_
         intro F
         simp only[ak]
         intro U ab ah ag ar ao aA
         try simp[aS,f0,f1,f5,f6,f7,f8] at U ab ah ag ar ao aA
         clear f0 f1 f5 f6 f7 f8
         have f0:=U
         have f1:=ab
         have f5:=ah
         have f6:=ag
         have f7:=ar
         have f8:=ao
         have f9:=aA
         clear U ab ah ag ar ao aA
         have nF:o≠ []:=fun h=>by rw[h] at h5;simp at h5;omega
         have nG:0<o.length:=by omega
         repeat' (first
          | refine ax ?_
          | ((fail_if_success (refine aQ ?_));(fail_if_success (refine aR ?_));refine aL ?_)
          | ((first|(refine az aM ?_;simp(disch:=omega) [cD,dy,gW,mZ,go,e4,gR,qz,uI,uJ,mb,h5,sizedB,nF,nG,<-aU,<-a9,f0,f1,f5,f6,f7,f8,f9];(try(refine⟨by first|decide|rfl,?_⟩)))|(refine aK ?_;simp(disch:=omega) [cD,dy,gW,mZ,go,e4,gR,qz,uI,uJ,mb,h5,sizedB,nF,nG,<-aU,<-a9,f0,f1,f5,f6,f7,f8,f9]));(try(refine al [0,1,5,6,7,8,9] ?_;intro F;simp only[ak];intro U ab ah ag ar ao aA;simp(disch:=omega) [cD,dy,gW,mZ,go,e4,gR,qz,uI,uJ,mb,h5,sizedB,nF,nG,<-aU,<-a9,f0,f1,f5,f6,f7,f8,f9] at U ab ah ag ar ao aA;clear f0 f1 f5 f6 f7 f8 f9;have f0:=U;have f1:=ab;have f5:=ah;have f6:=ag;have f7:=ar;have f8:=ao;have f9:=aA;clear U ab ah ag ar ao aA)))
          | (refine aJ _ (by simp(disch:=omega) [cD,dy,gW,mZ,go,e4,gR,qz,uI,uJ,mb,h5,sizedB,nF,nG,<-aU,<-a9,f0,f1,f5,f6,f7,f8,f9];rfl) (fun I=>?_) (fun I=>?_)<;>first|(exfalso;simp(disch:=omega) [cD,dy,gW,mZ,go,e4,gR,qz,uI,uJ,mb,h5,sizedB,nF,nG,<-aU,<-a9] at I;done)|(exfalso;simp at I;omega)|(simp at I))
          | ((first|refine aH ?_|refine aN ?_);simp(disch:=omega) [cD,dy,gW,mZ,go,e4,gR,qz,uI,uJ,mb,h5,sizedB,nF,nG,<-aU,<-a9,f0,f1,f5,f6,f7,f8,f9]))
         have yL:=map_set o (i+k) ((x*y+z+c)%4294967296)
         have gE:=nw ((x*y+z+c)%4294967296) (show i+k<o.length by omega)
         rw[qz,hg] at gE
         have Ch:=IW (B:=4294967296) (q:=(x*y+z+c)/4294967296) gE rfl (Nat.div_add_mod _ _).symm (show val o+aE i*aE k*c=a%aE i*b+aE i*(x*(b%aE k)) from aY)
         refine⟨B -(k+1),by omega,k+1,rfl,by omega,(x*y+z+c)/4294967296,by omega,o.set (i+k) ((x*y+z+c)%4294967296),?_,⟨by simp only[List.length_set];exact a3.len,nx a3.mj (Nat.mod_lt _ (by decide)),fun j bb=>?_,by simp[f0],by simp[f1],by simp[f5,<-aU,<-a9],by simp[f6],by simp only[aG,if_true];exact congrArg some yL,by simp[dy],by simp;omega⟩,rfl,rfl⟩
         · rw[mT,eQ,<-gH,<-Nat.mul_assoc]
           exact Ch
         · rw[ou _ _ (by omega),if_neg (by omega)]
           exact a3.aV j bb
       · have Ci:k=B:=by simp at hr;omega
         subst Ci
         refine aN ?_
         rw[Nat.mod_eq_of_lt Cg] at aY
         exact ⟨rfl,c,I,o,aY,⟨a3.len,a3.mj,a3.aV,by simp[a3.f0],by simp[a3.f1],by simp[a3.f5],by simp[a3.f6],by simp[a3.cells],by simp[a3.bD],by have:=a3.fx;simp;omega⟩,by simp[f7]⟩
     · rintro s ⟨c,o,I,aY,a3,f7⟩
       have f0:=a3.f0
       have f1:=a3.f1
       have f5:=a3.f5
       have f6:=a3.f6
       have cD:=a3.cells
       have dy:=a3.bD
       have hh:=a3.len
       have ov:=a3.fx
       have h5:A+B<=o.length:=by omega
       have nF:o≠ []:=fun h=>by rw[h] at h5;simp at h5;omega
       have nG:0<o.length:=by omega
       have nH:i+B<A+B:=by omega
       refine al [0,1,5,6,7] ?_
       intro F
       simp only[ak]
       intro U ab ah ag ar
       try simp[aS,f0,f1,f5,f6,f7] at U ab ah ag ar
       clear f0 f1 f5 f6 f7
       have f0:=U
       have f1:=ab
       have f5:=ah
       have f6:=ag
       have f7:=ar
       clear U ab ah ag ar
       repeat' (first
        | refine ax ?_
        | ((fail_if_success (refine aQ ?_));(fail_if_success (refine aR ?_));refine aL ?_)
        | ((first|(refine az aM ?_;simp(disch:=omega) [cD,dy,nH,h5,sizedB,nF,nG,<-aU,<-a9,f0,f1,f5,f6,f7];(try(refine⟨by first|decide|rfl,?_⟩)))|(refine aK ?_;simp(disch:=omega) [cD,dy,nH,h5,sizedB,nF,nG,<-aU,<-a9,f0,f1,f5,f6,f7]));(try(refine al [0,1,5,6,7] ?_;intro F;simp only[ak];intro U ab ah ag ar;simp(disch:=omega) [cD,dy,nH,h5,sizedB,nF,nG,<-aU,<-a9,f0,f1,f5,f6,f7] at U ab ah ag ar;clear f0 f1 f5 f6 f7;have f0:=U;have f1:=ab;have f5:=ah;have f6:=ag;have f7:=ar;clear U ab ah ag ar)))
        | (refine aJ _ (by simp(disch:=omega) [cD,dy,nH,h5,sizedB,nF,nG,<-aU,<-a9,f0,f1,f5,f6,f7];rfl) (fun I=>?_) (fun I=>?_)<;>first|(exfalso;simp(disch:=omega) [cD,dy,nH,h5,sizedB,nF,nG,<-aU,<-a9] at I;done)|(exfalso;simp at I;omega)|(simp at I))
        | ((first|refine aH ?_|refine aN ?_);simp(disch:=omega) [cD,dy,nH,h5,sizedB,nF,nG,<-aU,<-a9,f0,f1,f5,f6,f7]))
       have yL:=map_set o (i+B) c
       have gE:=nw c (show i+B<o.length by omega)
       rw[a3.aV (i+B) (by omega),Nat.mul_zero,Nat.add_zero,hg] at gE
       refine⟨A -(i+1),by omega,i+1,rfl,by omega,o.set (i+B) c,?_,q,⟨by simp only[List.length_set];exact a3.len,nx a3.mj I,fun j bb=>?_,by simp[f0],by simp[f1],by simp[f5,<-aU,<-a9],by simp,by simp only[aG,if_true];exact congrArg some yL,by simp[dy],by simp;omega⟩⟩
       · rw[gE,mT,<-uH,Nat.add_mul,aY,Nat.mul_assoc]
       · rw[ou _ _ (by omega),if_neg (by omega)]
         exact a3.aV j (by omega)
   · have k2:i=A:=by simp at I;omega
     subst k2
     refine aN ?_
     rw[Nat.mod_eq_of_lt Cf] at aY
     exact ⟨rfl,o,aY,q,⟨a3.len,a3.mj,a3.aV,by simp[a3.f0],by simp[a3.f1],by simp[a3.f5],by simp[a3.f6],by simp[a3.cells],by simp[a3.bD],by have:=a3.fx;simp;omega⟩⟩
 · rintro s ⟨o,q,aY,a3⟩
   have hh:=a3.len
   have f5:=a3.f5
   have cD:=a3.cells
   have cS:=qq (e:=false) a3.mj (show o.length<=1073741824 by omega)
   rw[aY] at cS
   have fe:List.take (A+B) (o.map fun n=>J.int .u32 (Z n))=o.map fun n=>J.int .u32 (Z n):=List.take_of_length_le (by simp;omega)
   have h5:A+B<=o.length:=by omega
   refine al [4,5] ?_
   intro F
   simp only[ak]
   intro ad ah
   try simp[aS,f5] at ad ah
   clear f5
   have f4:=ad
   have f5:=ah
   clear ad ah
   repeat' (first
    | refine ax ?_
    | ((fail_if_success (refine aQ ?_));(fail_if_success (refine aR ?_));refine aL ?_)
    | ((first|(refine az aM ?_;simp(disch:=omega) [cD,cS,fe,h5,<-aU,<-a9,f4,f5];(try(refine⟨by first|decide|rfl,?_⟩)))|(refine aK ?_;simp(disch:=omega) [cD,cS,fe,h5,<-aU,<-a9,f4,f5]));(try(refine al [4,5] ?_;intro F;simp only[ak];intro ad ah;simp(disch:=omega) [cD,cS,fe,h5,<-aU,<-a9,f4,f5] at ad ah;clear f4 f5;have f4:=ad;have f5:=ah;clear ad ah)))
    | (refine aJ _ (by simp(disch:=omega) [cD,cS,fe,h5,<-aU,<-a9,f4,f5];rfl) (fun I=>?_) (fun I=>?_)<;>first|(exfalso;simp(disch:=omega) [cD,cS,fe,h5,<-aU,<-a9] at I;done)|(exfalso;simp at I;omega)|(simp at I))
    | ((first|refine aH ?_|refine aN ?_);simp(disch:=omega) [cD,cS,fe,h5,<-aU,<-a9,f4,f5]))
noncomputable def IZ:FuncId->Option (List J->Option J):=da [(89,uG)]
theorem RG:∀f T,IZ f=some T->bl Tryz.prog G f T:=dc (by simp only[List.forall_mem_cons];exact ⟨IY,fun _ h=>absurd h (by simp)⟩)
theorem RH:IZ 89=some uG:=rfl
attribute [local simp] RH
noncomputable def y3:List J->Option J:=cl (fun z:Nat × Nat=>(ai z.1).length<=100000000/\(ai z.2).length<=100000000) (fun z=>[aw z.1,aw z.2]) (fun z=>aw (z.1*z.2))
theorem RI {a b:Nat} {e e':Bool} (bF:(ai a).length<=100000000) (au:(ai b).length<=100000000):
 y3 [.sl ((ai a).map fun n=> .int .u32 (Z n)) e,.sl ((ai b).map fun n=> .int .u32 (Z n)) e']=some (aw (a*b)):=
 cI (fun z w h=>by simp[bG,bL] at h;simp[h]) (a,b) ⟨bF,au⟩ (by simp)
theorem RJ:bl Tryz.prog G 35 y3:=by
 refine cJ mixed RG O_ fun z aV=>?_
 obtain⟨a,b⟩:=z
 have t:=IX (e:=false) (e':=false) aV.1 aV.2
 unfold i35
 refine al [0,1,4] fun F=>?_
 simp only[ak]
 intro f0 f1 f4
 simp[a8] at f0 f1 f4
 repeat' (first
  | refine ax ?_
  | ((fail_if_success (refine aQ ?_));(fail_if_success (refine aR ?_));refine aL ?_)
  | ((first|(refine az aM ?_;simp(disch:=omega) [t,f0,f1,f4];(try(refine⟨by first|decide|rfl,?_⟩)))|(refine aK ?_;simp(disch:=omega) [t,f0,f1,f4]));(try(refine al [0,1,4] ?_;intro F;simp only[ak];intro U ab ad;simp(disch:=omega) [t,f0,f1,f4] at U ab ad;clear f0 f1 f4;have f0:=U;have f1:=ab;have f4:=ad;clear U ab ad)))
  | (refine aJ _ (by simp(disch:=omega) [t,f0,f1,f4];rfl) (fun I=>?_) (fun I=>?_)<;>first|(exfalso;simp(disch:=omega) [t] at I;done)|(exfalso;simp at I;omega)|(simp at I))
  | ((first|refine aH ?_|refine aN ?_);simp(disch:=omega) [t,f0,f1,f4]))
end
end
end Go.Proofs.YtcikknajimdjoaaGreatDoor
