/- What the claim needs of the walks, put together by a program (shake.py). -/
import Derived.Test.YtemiagcencajeaaGreatDoorCtC
set_option maxRecDepth 100000
set_option linter.unusedSimpArgs false
set_option linter.unusedVariables false
set_option linter.unusedSectionVars false
namespace Go.Proofs.YtemiagcencajeaaGreatDoor
section
set_option maxHeartbeats 8000000
open Go Go.Eng Go.RowKit
attribute [local simp] bx.m bx.o bx.n bx.g gZ eQ df c7 dj evalOp.eq_1 evalOp.eq_2 evalOp.eq_3 evalOp.eq_4 evalOp.eq_5 evalOp.eq_6 evalOp.eq_7 evalOp.eq_8 evalOp.eq_9 evalOp.eq_10 evalOp.eq_11 evalOp.eq_12 evalOp.eq_13 evalOp.eq_14 evalOp.eq_15 evalOp.eq_16 evalOp.eq_17 evalOp.eq_18 evalOp.eq_19 evalOp.eq_20 evalOp.eq_21 evalOp.eq_22 evalOp.eq_23 evalOp.eq_24 evalOp.eq_25 evalOp.eq_27 evalOp.eq_28 evalOp.eq_29 jK bf.ev c6 aF aA.new bj J.cells J.c0 J.ew J.eA hF hH hG hI hK hJ iX iY iZ gm gn cut partOf bound elems ja jb jc jd je jf jg jh ji jj jk jl g2 jm jn jo jq jr js jt ju jv jw jx jy jz jA jB jC jD jE jF jG jH jI jJ eP eJ eB fA hL g0 aA.close aA.set hr jL jM jN i' g1 gv fT fs gf hn gM gg ho hp hq fx fy fz fv hM bY hj hN hk hO hP fq hQ fr hR hS hT gd iW hU hV hW hX hY hZ h0 h1 h3 h4 h5 h6 h7 h8 h9 h_ h' ia ib hl ic ie ig ih ij ik il im iq ir iu iv iw ix iy
attribute [local simp high] iT iU iV iz iA iB iC iD iE iF iG iH iI iJ iK iL iM iN iO iP iQ iR iS
attribute [local simp] aJ List.getElem?_cons_zero List.getElem?_cons_succ eH dp fP Nat.mod_eq_of_lt jY jZ j0 j1 fU j2 j3 j4
section
attribute [local irreducible] ck
attribute [local simp] ed ef dm
def blk (xs:List Nat) (N:Nat):List J:=(xs++List.replicate (N - xs.length) 0).map fun x=> .int .u32 (Z x)
structure Row (h:aA) (q:Nat) (xs:List Nat) (N:Nat):Prop where
 cells:h.cells q=some (blk xs N)
 c1:h.shut q=false
 et:q<h.next
 len:xs.length<=N
theorem Row.bump {h:aA} {q:Nat} {xs:List Nat} {N:Nat} (R:Row h q xs N) (m:Nat) (p:Nat->Option fw) (hm:h.next<=m):Row ⟨h.cells,h.shut,m,p⟩ q xs N:=⟨R.cells,R.c1,Nat.lt_of_lt_of_le R.et hm,R.len⟩
theorem Row.app {h:aA} {q:Nat} {xs:List Nat} {N:Nat} (R:Row h q xs N) (ak:xs.length<N) (eN:N<=1000000000) (v:Nat) (e:Bool) (m r:Nat) (p:Nat->Option fw):
 ki r 1 4 ⟨h.cells,h.shut,m,p⟩ (.ref q 0 xs.length N) (.sl [.int .u32 (Z v)] e)=some (.ref q 0 (xs.length+1) N,⟨aF h.cells q (some (blk (xs++ [v]) N)),h.shut,m,p⟩,.wr):=by
 have I:=R.cells
 unfold blk at I|-
 rw[<-Gk xs v N ak]
 exact Ei (h:=⟨h.cells,h.shut,m,p⟩) e R.c1 I (by have:=R.len;simp;omega) (by simp;omega) (by simp) (by decide) (by decide) (by simp;omega) (by simp[J.cells,J.c0]) (by simp[J.cells])
theorem Row.put {h:aA} {q:Nat} {xs:List Nat} {N:Nat} (R:Row h q xs N) (ak:xs.length<N) (v m:Nat) (p:Nat->Option fw) (hm:h.next<=m):
 Row ⟨aF h.cells q (some (blk (xs++ [v]) N)),h.shut,m,p⟩ q (xs++ [v]) N:=
 ⟨by simp only[aF,if_true],R.c1,Nat.lt_of_lt_of_le R.et hm,by simp;omega⟩
theorem Gs {xs:List Nat} {N:Nat} (ak:xs.length=N):blk xs N=xs.map fun x=> .int .u32 (Z x):=by
 rw[blk,ak,Nat.sub_self,List.replicate_zero,List.append_nil]
theorem Gt (N:Nat):List.replicate N (J.int .u32 (Z 0))=blk [] N:=by simp[blk]
theorem Gu {w N:Nat} (h:w<=N):blk (List.replicate w 0) N=blk [] N:=by
 simp only[blk,List.length_replicate,List.length_nil,List.nil_append,Nat.sub_zero]
 rw[List.replicate_append_replicate,show w+(N - w)=N by omega]
theorem Gv {x s c:Nat} (aG:s<=32) (I:c<2^s):(x*2^s%4294967296)|||c=x*2^s%4294967296+c:=by
 have e:(4294967296:Nat)=2^(32 - s)*2^s:=by rw[<-Nat.pow_add,show 32 - s+s=32 by omega]
 rw[e,Nat.mul_mod_mul_right,Nat.mul_comm,Nat.two_pow_add_eq_or_of_lt I]
theorem Gw {x s c:Nat} (aG:s<=32) (I:c<2^s):x*2^s%4294967296+c<4294967296:=by
 have e:(4294967296:Nat)=2^(32 - s)*2^s:=by rw[<-Nat.pow_add,show 32 - s+s=32 by omega]
 have ab:=Nat.mod_lt x (Nat.pow_pos (n:=32 - s) (show 0<2 by decide))
 have h2:(x%2^(32 - s)+1)*2^s<=2^(32 - s)*2^s:=Nat.mul_le_mul_right _ ab
 rw[Nat.add_mul] at h2
 rw[e,Nat.mul_mod_mul_right]
 omega
theorem Gx {a o i c B:Nat} (h:o+ay i*c=a%ay i*B):
 (o+ay i*((a/ay i%4294967296)*B%4294967296+c))+ay (i+1)*((a/ay i%4294967296)*B/4294967296)=a%ay (i+1)*B:=by
 rw[mn,ee]
 generalize a/ay i%4294967296=x
 generalize a%ay i=u at*
 have:=Nat.div_add_mod (x*B) 4294967296
 generalize x*B/4294967296=q at*
 generalize x*B%4294967296=r at*
 have e:ay i*(x*B)=ay i*(4294967296*q+r):=by rw[this]
 grind
noncomputable def z6:FuncId->Option (List J->Option J):=dn [(170,kl),(239,p4)]
theorem O3:∀f T,z6 f=some T->br Tryz.prog G f T:=dr (by simp only[List.forall_mem_cons];exact⟨o3,zU,fun _ h=>absurd h (by simp)⟩)
theorem O4:z6 170=some kl:=rfl
theorem O5:z6 239=some p4:=rfl
attribute [local simp] O4 O5
def Gy (a r w L i:Nat) (s:a'):Prop:=∃q o c,o.length=i/\Small o/\c<2^r/\val o+ay i*c=a%ay i*2^r/\s.F 5= .ref q 0 (w+i) (w+L+1)/\s.F 7=bM c/\Row s.h q (List.replicate w 0++o) (w+L+1)
noncomputable def lB:List J->Option J:=cd (fun z:Nat × Nat=>(ah z.1).length<=100000000/\z.2<=100000000) (fun z=>[aw z.1,bt z.2]) (fun z=>aw (z.1*2^z.2))
theorem q6 {a n:Nat} {e:Bool} (bh:(ah a).length<=100000000) (ar:n<=100000000):lB [.sl ((ah a).map fun n=> .int .u32 (Z n)) e,bt n]=some (aw (a*2^n)):=
 cU (fun z w h=>by simp[b2,b6] at h;simp[h]) (a,n) ⟨bh,ar⟩ (by simp)
theorem w2:br Tryz.prog G 172 lB:=by
 refine cG mixed O3 zC fun z aP=>?_
 obtain⟨a,n⟩:=z
 obtain⟨cE,ar⟩:=aP
 simp only at cE ar|-
 by_cases dD:a=0
 · subst dD
   have cK:=fu
   simp only[Nat.zero_mul]
   unfold i172
   refine ao [0,1,4,5,6,7,9,12,24,25,26,27] fun F=>?_
   simp only[an]
   intro f0 f1 f4 f5 f6 f7 f9 f12 f24 f25 f26 f27
   simp[bj] at f0 f1 f4 f5 f6 f7 f9 f12 f24 f25 f26 f27
   repeat' (first
    | refine aC ?_
    | ((fail_if_success (refine aT ?_));(fail_if_success (refine aU ?_));refine aO ?_)
    | ((first|(refine aD aN ?_;simp(disch:=omega) [cK,f0,f1,f4,f5,f6,f7,f9,f12,f24,f25,f26,f27];(try(refine⟨by first|decide|rfl,?_⟩)))|(refine aM ?_;simp(disch:=omega) [cK,f0,f1,f4,f5,f6,f7,f9,f12,f24,f25,f26,f27]));(try(refine ao [0,1,4,5,6,7,9,12,24,25,26,27] ?_;intro F;simp only[an];intro U aa ad ae ai au a2 a9 cA bo bB bL;simp(disch:=omega) [cK,f0,f1,f4,f5,f6,f7,f9,f12,f24,f25,f26,f27] at U aa ad ae ai au a2 a9 cA bo bB bL;clear f0 f1 f4 f5 f6 f7 f9 f12 f24 f25 f26 f27;have f0:=U;have f1:=aa;have f4:=ad;have f5:=ae;have f6:=ai;have f7:=au;have f9:=a2;have f12:=a9;have f24:=cA;have f25:=bo;have f26:=bB;have f27:=bL;clear U aa ad ae ai au a2 a9 cA bo bB bL)))
    | (refine aL _ (by simp(disch:=omega) [cK,f0,f1,f4,f5,f6,f7,f9,f12,f24,f25,f26,f27];rfl) (fun I=>?_) (fun I=>?_)<;>first|(exfalso;simp(disch:=omega) [cK] at I;done)|(exfalso;simp at I;omega)|(simp at I))
    | ((first|refine aH ?_|refine aQ ?_);simp(disch:=omega) [cK,f0,f1,f4,f5,f6,f7,f9,f12,f24,f25,f26,f27]))
 have bh:=dO a
 have bP:ah a≠ []:=fun h=>dD (jO.1 h)
 obtain⟨w,hw⟩:∃w,w=n/32:=⟨_,rfl⟩
 obtain⟨r,ba⟩:∃r,r=n%32:=⟨_,rfl⟩
 have om:r<32:=by omega
 have qZ:ay w*(a*2^r)=a*2^n:=by
  rw[lf,Nat.mul_left_comm,<-Nat.pow_add,show 32*w+r=n by omega]
 have a6:2^r<=2147483648:=Nat.pow_le_pow_right (n:=2) (by decide) (show r<=31 by omega)
 obtain⟨L,a8⟩:∃L,L=(ah a).length:=⟨_,rfl⟩
 have aI:a<ay L:=c5.1 (by omega)
 have mu:0<L:=by rw[a8];exact mo.2 dD
 unfold i172
 have kn:Z (w+L+1)*4<=140737488355328:=by simp only[Z];omega
 have lC:w<=w+L+1:=by omega
 have O6:n<9223372036854775808:=by omega
 refine ao [0,1,4,5,6,7,9,12,24,25,26,27] fun F=>?_
 simp only[an]
 intro f0 f1 f4 f5 f6 f7 f9 f12 f24 f25 f26 f27
 simp[bj] at f0 f1 f4 f5 f6 f7 f9 f12 f24 f25 f26 f27
 repeat' (first
  | refine aC ?_
  | ((fail_if_success (refine aT ?_));(fail_if_success (refine aU ?_));refine aO ?_)
  | ((first|(refine aD aN ?_;simp(disch:=omega) [<-hw,<-ba,<-a8,bP,kn,lC,mu,f0,f1,f4,f5,f6,f7,f9,f12,f24,f25,f26,f27];(try(refine⟨by first|decide|rfl,?_⟩)))|(refine aM ?_;simp(disch:=omega) [<-hw,<-ba,<-a8,bP,kn,lC,mu,f0,f1,f4,f5,f6,f7,f9,f12,f24,f25,f26,f27]));(try(refine ao [0,1,4,5,6,7,9,12,24,25,26,27] ?_;intro F;simp only[an];intro U aa ad ae ai au a2 a9 cA bo bB bL;simp(disch:=omega) [<-hw,<-ba,<-a8,bP,kn,lC,mu,f0,f1,f4,f5,f6,f7,f9,f12,f24,f25,f26,f27] at U aa ad ae ai au a2 a9 cA bo bB bL;clear f0 f1 f4 f5 f6 f7 f9 f12 f24 f25 f26 f27;have f0:=U;have f1:=aa;have f4:=ad;have f5:=ae;have f6:=ai;have f7:=au;have f9:=a2;have f12:=a9;have f24:=cA;have f25:=bo;have f26:=bB;have f27:=bL;clear U aa ad ae ai au a2 a9 cA bo bB bL)))
  | (refine aL _ (by simp(disch:=omega) [<-hw,<-ba,<-a8,bP,kn,lC,mu,f0,f1,f4,f5,f6,f7,f9,f12,f24,f25,f26,f27];rfl) (fun I=>?_) (fun I=>?_)<;>first|(exfalso;simp(disch:=omega) [<-hw,<-ba,<-a8,bP,kn,lC,mu] at I;done)|(exfalso;simp at I;omega)|(simp at I))
  | ((first|refine aH ?_|refine aQ ?_);simp(disch:=omega) [<-hw,<-ba,<-a8,bP,kn,lC,mu,f0,f1,f4,f5,f6,f7,f9,f12,f24,f25,f26,f27]))
 refine kO L (fun i s=>Gy a r w L i s/\s.F 26=bt i) (Gy a r w L L) (fun _=>False) ?_ ?_ ?_ (fun _ _ h=>h.elim)
 · refine⟨?_,f26⟩
   refine⟨_,[],0,rfl,Small.nil,Nat.pow_pos (by decide),by simp[val,ft,Nat.mod_one],f5,f7,?_,?_,?_,?_⟩
   · rw[List.append_nil,Gu lC,<-Gt];simp[aF]
   · simp
   · simp
   · simp;omega
 · rintro i s ag aE ⟨⟨q,o,c,aK,aG,o7,aR,ez,kQ,R⟩,u5⟩
   replace f0:=(aE 0 rfl).trans f0;replace f6:=(aE 6 rfl).trans f6;replace f24:=(aE 24 rfl).trans f24;replace f25:=(aE 25 rfl).trans f25
   clear f5 f7 f26
   have f5:=ez
   have f7:=kQ
   have f26:=u5
   refine ao [0,5,6,7,9,24,25,26,27] ?_
   intro F
   simp only[an]
   intro U ae ai au a2 cA bo bB bL
   try simp[aJ,f0,f5,f6,f7,f24,f25,f26] at U ae ai au a2 cA bo bB bL
   clear f0 f5 f6 f7 f24 f25 f26
   have f0:=U
   have f5:=ae
   have f6:=ai
   have f7:=au
   have f9:=a2
   have f24:=cA
   have f25:=bo
   have f26:=bB
   have f27:=bL
   clear U ae ai au a2 cA bo bB bL
   by_cases aW:i<L
   · have ak:=bh.aS i
     have cR:=(kj (show i<(ah a).length by omega)).symm
     have st:=Gx aR
     rw[<-fV] at st
     have dQ:=Gv (x:=aS (ah a) i) (by omega) o7
     have c8:=Gw (x:=aS (ah a) i) (by omega) o7
     have hlen:(List.replicate w 0++o).length=w+i:=by simp[aK]
     have ap:=R.app (by omega) (by omega) (aS (ah a) i*2^r%4294967296+c)
     rw[hlen] at ap
     have bJ:min r 32=r:=by omega
     have ca:min r 64=r:=by omega
     have kA:aS (ah a) i*2^r/4294967296<2^r:=by
      rw[Nat.div_lt_iff_lt_mul (by decide),Nat.mul_comm]
      exact Nat.mul_lt_mul_of_pos_left ak (Nat.pow_pos (by decide))
     have mw:aS (ah a) i*2^r<18446744073709551616:=Nat.lt_of_le_of_lt (Nat.mul_le_mul (show aS (ah a) i<=4294967295 by omega) a6) (by decide)
     have lh:aS (ah a) i*2^r/4294967296<4294967296:=by omega
     have z7:=fun m p hm=>R.put (m:=m) (p:=p) (by omega) (aS (ah a) i*2^r%4294967296+c) hm
     repeat' (first
      | refine aC ?_
      | ((fail_if_success (refine aT ?_));(fail_if_success (refine aU ?_));refine aO ?_)
      | ((first|(refine aD aN ?_;simp(disch:=omega) [aW,cR,dQ,c8,ap,bJ,ca,mw,lh,<-a8,f0,f5,f6,f7,f9,f24,f25,f26,f27];(try(refine⟨by first|decide|rfl,?_⟩)))|(refine aM ?_;simp(disch:=omega) [aW,cR,dQ,c8,ap,bJ,ca,mw,lh,<-a8,f0,f5,f6,f7,f9,f24,f25,f26,f27]));(try(refine ao [0,5,6,7,9,24,25,26,27] ?_;intro F;simp only[an];intro U ae ai au a2 cA bo bB bL;simp(disch:=omega) [aW,cR,dQ,c8,ap,bJ,ca,mw,lh,<-a8,f0,f5,f6,f7,f9,f24,f25,f26,f27] at U ae ai au a2 cA bo bB bL;clear f0 f5 f6 f7 f9 f24 f25 f26 f27;have f0:=U;have f5:=ae;have f6:=ai;have f7:=au;have f9:=a2;have f24:=cA;have f25:=bo;have f26:=bB;have f27:=bL;clear U ae ai au a2 cA bo bB bL)))
      | (refine aL _ (by simp(disch:=omega) [aW,cR,dQ,c8,ap,bJ,ca,mw,lh,<-a8,f0,f5,f6,f7,f9,f24,f25,f26,f27];rfl) (fun I=>?_) (fun I=>?_)<;>first|(exfalso;simp(disch:=omega) [aW,cR,dQ,c8,ap,bJ,ca,mw,lh,<-a8] at I;done)|(exfalso;simp at I;omega)|(simp at I))
      | ((first|refine aH ?_|refine aQ ?_);simp(disch:=omega) [aW,cR,dQ,c8,ap,bJ,ca,mw,lh,<-a8,f0,f5,f6,f7,f9,f24,f25,f26,f27]))
     refine⟨q,o++ [aS (ah a) i*2^r%4294967296+c],_,by simp[aK],nK.2 ⟨aG,ld.2 ⟨c8,Small.nil⟩⟩,kA,?_,f5,f7,?_⟩
     · rw[lO,aK];simpa[val] using st
     · rw[<-List.append_assoc];refine z7 _ _ ?_;omega
   · have oq:i=L:=by omega
     subst oq
     repeat' (first
      | refine aC ?_
      | ((fail_if_success (refine aT ?_));(fail_if_success (refine aU ?_));refine aO ?_)
      | ((first|(refine aD aN ?_;simp(disch:=omega) [aW,f0,f5,f6,f7,f9,f24,f25,f26,f27];(try(refine⟨by first|decide|rfl,?_⟩)))|(refine aM ?_;simp(disch:=omega) [aW,f0,f5,f6,f7,f9,f24,f25,f26,f27]));(try(refine ao [0,5,6,7,9,24,25,26,27] ?_;intro F;simp only[an];intro U ae ai au a2 cA bo bB bL;simp(disch:=omega) [aW,f0,f5,f6,f7,f9,f24,f25,f26,f27] at U ae ai au a2 cA bo bB bL;clear f0 f5 f6 f7 f9 f24 f25 f26 f27;have f0:=U;have f5:=ae;have f6:=ai;have f7:=au;have f9:=a2;have f24:=cA;have f25:=bo;have f26:=bB;have f27:=bL;clear U ae ai au a2 cA bo bB bL)))
      | (refine aL _ (by simp(disch:=omega) [aW,f0,f5,f6,f7,f9,f24,f25,f26,f27];rfl) (fun I=>?_) (fun I=>?_)<;>first|(exfalso;simp(disch:=omega) [aW] at I;done)|(exfalso;simp at I;omega)|(simp at I))
      | ((first|refine aH ?_|refine aQ ?_);simp(disch:=omega) [aW,f0,f5,f6,f7,f9,f24,f25,f26,f27]))
     exact⟨q,o,c,aK,aG,o7,aR,f5,f7,R.bump _ _ (by omega)⟩
 · rintro s aE ⟨q,o,c,aK,aG,o7,aR,ez,kQ,R⟩
   clear f5 f7 f26
   have f5:=ez
   have f7:=kQ
   refine ao [4,5,7] ?_
   intro F
   simp only[an]
   intro ad ae au
   try simp[aJ,f5,f7] at ad ae au
   clear f5 f7
   have f4:=ad
   have f5:=ae
   have f7:=au
   clear ad ae au
   have hlen:(List.replicate w 0++o).length=w+L:=by simp[aK]
   have lh:c<4294967296:=by omega
   have ap:=R.app (by omega) (by omega) c
   rw[hlen] at ap
   have ny:Small ((List.replicate w 0++o)++ [c]):=nK.2 ⟨nK.2 ⟨p2 w,aG⟩,ld.2 ⟨lh,Small.nil⟩⟩
   have fN:((List.replicate w 0++o)++ [c]).length=w+L+1:=by simp[aK];omega
   have bW:=ou (e:=false) ny (by omega)
   rw[Nat.mod_eq_of_lt aI] at aR
   have lq:val ((List.replicate w 0++o)++ [c])=a*2^n:=by
    rw[<-qZ,List.append_assoc,zS,lO,aK]
    simp only[val,Nat.mul_zero,Nat.add_zero];rw[aR]
   rw[lq] at bW
   rw[Gs fN] at ap
   generalize (List.replicate w 0++o)++ [c]=xs at*
   have ey:List.take (w+L+1) (xs.map fun x=>J.int .u32 (Z x))=xs.map fun x=>J.int .u32 (Z x):=List.take_of_length_le (by simp;omega)
   repeat' (first
    | refine aC ?_
    | ((fail_if_success (refine aT ?_));(fail_if_success (refine aU ?_));refine aO ?_)
    | ((first|(refine aD aN ?_;simp(disch:=omega) [ap,bW,ey,fN,f4,f5,f7];(try(refine⟨by first|decide|rfl,?_⟩)))|(refine aM ?_;simp(disch:=omega) [ap,bW,ey,fN,f4,f5,f7]));(try(refine ao [4,5,7] ?_;intro F;simp only[an];intro ad ae au;simp(disch:=omega) [ap,bW,ey,fN,f4,f5,f7] at ad ae au;clear f4 f5 f7;have f4:=ad;have f5:=ae;have f7:=au;clear ad ae au)))
    | (refine aL _ (by simp(disch:=omega) [ap,bW,ey,fN,f4,f5,f7];rfl) (fun I=>?_) (fun I=>?_)<;>first|(exfalso;simp(disch:=omega) [ap,bW,ey,fN] at I;done)|(exfalso;simp at I;omega)|(simp at I))
    | ((first|refine aH ?_|refine aQ ?_);simp(disch:=omega) [ap,bW,ey,fN,f4,f5,f7]))
end
section
attribute [local irreducible] ck
attribute [local simp] ed ef dm
def dK (b:Bool) (n:Nat):Int:=if b then -n else n
theorem z8 (b:Bool) (n:Nat):bK (dK b n)=(b&&decide (n≠0)):=by
 cases b
 · simp[bK,dK]
 · simp only[bK,dK,if_true,Bool.true_and,decide_eq_decide];omega
theorem z9 (b:Bool) (n:Nat):(dK b n).natAbs=n:=by
 cases b<;>simp only[dK,if_true,Bool.false_eq_true,if_false]<;>omega
theorem q7 (z:Int):dK (bK z) z.natAbs=z:=by
 simp only[dK,bK,decide_eq_true_eq];split<;>omega
noncomputable def Gz:FuncId->Option (List J->Option J):=dn [(178,na)]
theorem O7:∀f T,Gz f=some T->br Tryz.prog G f T:=dr (by simp only[List.forall_mem_cons];exact⟨uY,fun _ h=>absurd h (by simp)⟩)
theorem O8:Gz 178=some na:=rfl
attribute [local simp] O8
noncomputable def nP:List J->Option J:=cd (fun z:Bool × List Nat=>Small z.2/\z.2.length<=1073741824) (fun z=>[.bool z.1,cF z.2 false]) (fun z=>bk (dK z.1 (val z.2)))
theorem w3 {b:Bool} {l:List Nat} {e:Bool} (h:Small l) (aV:l.length<=1073741824):nP [.bool b,.sl (l.map fun n=> .int .u32 (Z n)) e]=some (bk (dK b (val l))):=
 cU (fun z w h=>by simp[b2] at h;simp[h]) (b,l) ⟨h,aV⟩ (by simp)
theorem w4:br Tryz.prog G 97 nP:=by
 refine cG mixed O7 EC fun z aP=>?_
 obtain⟨b,l⟩:=z
 obtain⟨aG,aV⟩:=aP
 simp only at aG aV|-
 have t:=pX (e:=false) aG aV
 have bz:=z8 b (val l)
 have bR:=z9 b (val l)
 by_cases aR:val l=0
 · have ar:ah (val l)= []:=jO.2 aR
   have bA:decide (val l≠0)=false:=decide_eq_false (fun h=>h aR)
   rw[bA] at bz
   unfold i97
   cases b
   · skip
     refine ao [0,1,4,5] fun F=>?_
     simp only[an]
     intro f0 f1 f4 f5
     simp[bj] at f0 f1 f4 f5
     repeat' (first
      | refine aC ?_
      | ((fail_if_success (refine aT ?_));(fail_if_success (refine aU ?_));refine aO ?_)
      | ((first|(refine aD aN ?_;simp(disch:=omega) [t,ar,f0,f1,f4,f5];(try(refine⟨by first|decide|rfl,?_⟩)))|(refine aM ?_;simp(disch:=omega) [t,ar,f0,f1,f4,f5]));(try(refine ao [0,1,4,5] ?_;intro F;simp only[an];intro U aa ad ae;simp(disch:=omega) [t,ar,f0,f1,f4,f5] at U aa ad ae;clear f0 f1 f4 f5;have f0:=U;have f1:=aa;have f4:=ad;have f5:=ae;clear U aa ad ae)))
      | (refine aL _ (by simp(disch:=omega) [t,ar,f0,f1,f4,f5];rfl) (fun I=>?_) (fun I=>?_)<;>first|(exfalso;simp(disch:=omega) [t,ar] at I;done)|(exfalso;simp at I;omega)|(simp at I))
      | ((first|refine aH ?_|refine aQ ?_);simp(disch:=omega) [t,ar,f0,f1,f4,f5,bz,bR]))
   · skip
     refine ao [0,1,4,5] fun F=>?_
     simp only[an]
     intro f0 f1 f4 f5
     simp[bj] at f0 f1 f4 f5
     repeat' (first
      | refine aC ?_
      | ((fail_if_success (refine aT ?_));(fail_if_success (refine aU ?_));refine aO ?_)
      | ((first|(refine aD aN ?_;simp(disch:=omega) [t,ar,f0,f1,f4,f5];(try(refine⟨by first|decide|rfl,?_⟩)))|(refine aM ?_;simp(disch:=omega) [t,ar,f0,f1,f4,f5]));(try(refine ao [0,1,4,5] ?_;intro F;simp only[an];intro U aa ad ae;simp(disch:=omega) [t,ar,f0,f1,f4,f5] at U aa ad ae;clear f0 f1 f4 f5;have f0:=U;have f1:=aa;have f4:=ad;have f5:=ae;clear U aa ad ae)))
      | (refine aL _ (by simp(disch:=omega) [t,ar,f0,f1,f4,f5];rfl) (fun I=>?_) (fun I=>?_)<;>first|(exfalso;simp(disch:=omega) [t,ar] at I;done)|(exfalso;simp at I;omega)|(simp at I))
      | ((first|refine aH ?_|refine aQ ?_);simp(disch:=omega) [t,ar,f0,f1,f4,f5,bz,bR]))
 · have ar:0<(ah (val l)).length:=mo.2 aR
   have dP:¬ah (val l)= []:=fun h=>aR (jO.1 h)
   have bA:decide (val l≠0)=true:=decide_eq_true aR
   rw[bA] at bz
   unfold i97
   cases b
   · skip
     refine ao [0,1,4,5] fun F=>?_
     simp only[an]
     intro f0 f1 f4 f5
     simp[bj] at f0 f1 f4 f5
     repeat' (first
      | refine aC ?_
      | ((fail_if_success (refine aT ?_));(fail_if_success (refine aU ?_));refine aO ?_)
      | ((first|(refine aD aN ?_;simp(disch:=omega) [t,ar,f0,f1,f4,f5];(try(refine⟨by first|decide|rfl,?_⟩)))|(refine aM ?_;simp(disch:=omega) [t,ar,f0,f1,f4,f5]));(try(refine ao [0,1,4,5] ?_;intro F;simp only[an];intro U aa ad ae;simp(disch:=omega) [t,ar,f0,f1,f4,f5] at U aa ad ae;clear f0 f1 f4 f5;have f0:=U;have f1:=aa;have f4:=ad;have f5:=ae;clear U aa ad ae)))
      | (refine aL _ (by simp(disch:=omega) [t,ar,f0,f1,f4,f5];rfl) (fun I=>?_) (fun I=>?_)<;>first|(exfalso;simp(disch:=omega) [t,ar] at I;done)|(exfalso;simp at I;omega)|(simp at I))
      | ((first|refine aH ?_|refine aQ ?_);simp(disch:=omega) [t,ar,f0,f1,f4,f5,bz,bR]))
   · skip
     refine ao [0,1,4,5] fun F=>?_
     simp only[an]
     intro f0 f1 f4 f5
     simp[bj] at f0 f1 f4 f5
     repeat' (first
      | refine aC ?_
      | ((fail_if_success (refine aT ?_));(fail_if_success (refine aU ?_));refine aO ?_)
      | ((first|(refine aD aN ?_;simp(disch:=omega) [t,ar,dP,f0,f1,f4,f5];(try(refine⟨by first|decide|rfl,?_⟩)))|(refine aM ?_;simp(disch:=omega) [t,ar,dP,f0,f1,f4,f5]));(try(refine ao [0,1,4,5] ?_;intro F;simp only[an];intro U aa ad ae;simp(disch:=omega) [t,ar,dP,f0,f1,f4,f5] at U aa ad ae;clear f0 f1 f4 f5;have f0:=U;have f1:=aa;have f4:=ad;have f5:=ae;clear U aa ad ae)))
      | (refine aL _ (by simp(disch:=omega) [t,ar,dP,f0,f1,f4,f5];rfl) (fun I=>?_) (fun I=>?_)<;>first|(exfalso;simp(disch:=omega) [t,ar,dP] at I;done)|(exfalso;simp at I;omega)|(simp at I))
      | ((first|refine aH ?_|refine aQ ?_);simp(disch:=omega) [t,ar,dP,f0,f1,f4,f5,bz,bR]))
noncomputable def w5:FuncId->Option (List J->Option J):=dn [(97,nP),(212,pY),(213,p0)]
theorem O9:∀f T,w5 f=some T->br Tryz.prog G f T:=dr (by simp only[List.forall_mem_cons];exact⟨w4,zP,zQ,fun _ h=>absurd h (by simp)⟩)
theorem O_:w5 97=some nP:=rfl
theorem O':w5 212=some pY:=rfl
theorem Pa:w5 213=some p0:=rfl
attribute [local simp] O_ O' Pa
theorem GA {a b:Int} (h:bK a=bK b):dK (bK a) (a.natAbs+b.natAbs)=a+b:=by
 simp only[dK,bK,decide_eq_true_eq,decide_eq_decide] at*;split<;>omega
theorem GB {a b:Int} (h:bK a≠bK b) (h2:¬a.natAbs<b.natAbs):dK (bK a) (a.natAbs - b.natAbs)=a+b:=by
 simp only[dK,bK,decide_eq_true_eq,ne_eq,decide_eq_decide] at*;split<;>omega
theorem GC {a b:Int} (h:bK a≠bK b) (h2:a.natAbs<b.natAbs):dK (bK b) (b.natAbs - a.natAbs)=a+b:=by
 simp only[dK,bK,decide_eq_true_eq,ne_eq,decide_eq_decide] at*;split<;>omega
def cb (z:Int):Nat:=(ah z.natAbs).length
noncomputable def z_:List J->Option J:=cd (fun z:Int × Int=>cb z.1<=100000000/\cb z.2<=100000000) (fun z=>[bk z.1,bk z.2]) (fun z=>bk (z.1+z.2))
theorem Pb:br Tryz.prog G 151 z_:=by
 refine cG mixed O9 M_ fun z aP=>?_
 obtain⟨a,b⟩:=z
 obtain⟨bh,aj⟩:=aP
 simp only[cb] at bh aj|-
 have qx:=fun n=>dO n
 unfold i151
 by_cases aG:bK a=bK b
 · have t1:=zO (a:=a.natAbs) (b:=b.natAbs) (e:=false) (e':=false) (by omega) (by omega)
   have aV:=kk a.natAbs b.natAbs
   have t2:=w3 (b:=bK a) (l:=ah (a.natAbs+b.natAbs)) (e:=false) (qx _) (by omega)
   rw[dm,GA aG] at t2
   generalize aI:bK a=se at*
   generalize a6:bK b=sf at*
   subst aG
   refine ao [0,1,2,3,4,5,6,7,13,30] fun F=>?_
   simp only[an]
   intro f0 f1 f2 f3 f4 f5 f6 f7 f13 f30
   simp[bj] at f0 f1 f2 f3 f4 f5 f6 f7 f13 f30
   repeat' (first
    | refine aC ?_
    | ((fail_if_success (refine aT ?_));(fail_if_success (refine aU ?_));refine aO ?_)
    | ((first|(refine aD aN ?_;simp(disch:=omega) [aI,a6,t1,t2,f0,f1,f2,f3,f4,f5,f6,f7,f13,f30];(try(refine⟨by first|decide|rfl,?_⟩)))|(refine aM ?_;simp(disch:=omega) [aI,a6,t1,t2,f0,f1,f2,f3,f4,f5,f6,f7,f13,f30]));(try(refine ao [0,1,2,3,4,5,6,7,13,30] ?_;intro F;simp only[an];intro U aa af al ad ae ai au aY cN;simp(disch:=omega) [aI,a6,t1,t2,f0,f1,f2,f3,f4,f5,f6,f7,f13,f30] at U aa af al ad ae ai au aY cN;clear f0 f1 f2 f3 f4 f5 f6 f7 f13 f30;have f0:=U;have f1:=aa;have f2:=af;have f3:=al;have f4:=ad;have f5:=ae;have f6:=ai;have f7:=au;have f13:=aY;have f30:=cN;clear U aa af al ad ae ai au aY cN)))
    | (refine aL _ (by simp(disch:=omega) [aI,a6,t1,t2,f0,f1,f2,f3,f4,f5,f6,f7,f13,f30];rfl) (fun I=>?_) (fun I=>?_)<;>first|(exfalso;simp(disch:=omega) [aI,a6,t1,t2] at I;done)|(exfalso;simp at I;omega)|(simp at I))
    | ((first|refine aH ?_|refine aQ ?_);simp(disch:=omega) [aI,a6,t1,t2,f0,f1,f2,f3,f4,f5,f6,f7,f13,f30]))
 · have dT:(bK a == bK b)=false:=by simpa using aG
   have t1:=wN (a:=a.natAbs) (b:=b.natAbs) (e:=false) (e':=false) (by omega) (by omega)
   by_cases bO:a.natAbs<b.natAbs
   · rw[if_pos bO] at t1
     have t2:=wN (a:=b.natAbs) (b:=a.natAbs) (e:=false) (e':=false) (by omega) (by omega)
     rw[if_neg (by omega)] at t2
     have t3:=w3 (b:=bK b) (l:=ah (b.natAbs - a.natAbs)) (e:=false) (qx _) (Nat.le_trans (fW (Nat.sub_le _ _)) (by omega))
     rw[dm,GC aG bO] at t3
     generalize aI:bK a=se at*
     generalize a6:bK b=sf at*
     refine ao [0,1,2,3,4,5,6,7,13,30] fun F=>?_
     simp only[an]
     intro f0 f1 f2 f3 f4 f5 f6 f7 f13 f30
     simp[bj] at f0 f1 f2 f3 f4 f5 f6 f7 f13 f30
     repeat' (first
      | refine aC ?_
      | ((fail_if_success (refine aT ?_));(fail_if_success (refine aU ?_));refine aO ?_)
      | ((first|(refine aD aN ?_;simp(disch:=omega) [aI,a6,dT,t1,t2,t3,f0,f1,f2,f3,f4,f5,f6,f7,f13,f30];(try(refine⟨by first|decide|rfl,?_⟩)))|(refine aM ?_;simp(disch:=omega) [aI,a6,dT,t1,t2,t3,f0,f1,f2,f3,f4,f5,f6,f7,f13,f30]));(try(refine ao [0,1,2,3,4,5,6,7,13,30] ?_;intro F;simp only[an];intro U aa af al ad ae ai au aY cN;simp(disch:=omega) [aI,a6,dT,t1,t2,t3,f0,f1,f2,f3,f4,f5,f6,f7,f13,f30] at U aa af al ad ae ai au aY cN;clear f0 f1 f2 f3 f4 f5 f6 f7 f13 f30;have f0:=U;have f1:=aa;have f2:=af;have f3:=al;have f4:=ad;have f5:=ae;have f6:=ai;have f7:=au;have f13:=aY;have f30:=cN;clear U aa af al ad ae ai au aY cN)))
      | (refine aL _ (by simp(disch:=omega) [aI,a6,dT,t1,t2,t3,f0,f1,f2,f3,f4,f5,f6,f7,f13,f30];rfl) (fun I=>?_) (fun I=>?_)<;>first|(exfalso;simp(disch:=omega) [aI,a6,dT,t1,t2,t3] at I;done)|(exfalso;simp at I;omega)|(simp at I))
      | ((first|refine aH ?_|refine aQ ?_);simp(disch:=omega) [aI,a6,dT,t1,t2,t3,f0,f1,f2,f3,f4,f5,f6,f7,f13,f30]))
   · rw[if_neg bO] at t1
     have t3:=w3 (b:=bK a) (l:=ah (a.natAbs - b.natAbs)) (e:=false) (qx _) (Nat.le_trans (fW (Nat.sub_le _ _)) (by omega))
     rw[dm,GB aG bO] at t3
     generalize aI:bK a=se at*
     generalize a6:bK b=sf at*
     refine ao [0,1,2,3,4,5,6,7,13,30] fun F=>?_
     simp only[an]
     intro f0 f1 f2 f3 f4 f5 f6 f7 f13 f30
     simp[bj] at f0 f1 f2 f3 f4 f5 f6 f7 f13 f30
     repeat' (first
      | refine aC ?_
      | ((fail_if_success (refine aT ?_));(fail_if_success (refine aU ?_));refine aO ?_)
      | ((first|(refine aD aN ?_;simp(disch:=omega) [aI,a6,dT,t1,t3,f0,f1,f2,f3,f4,f5,f6,f7,f13,f30];(try(refine⟨by first|decide|rfl,?_⟩)))|(refine aM ?_;simp(disch:=omega) [aI,a6,dT,t1,t3,f0,f1,f2,f3,f4,f5,f6,f7,f13,f30]));(try(refine ao [0,1,2,3,4,5,6,7,13,30] ?_;intro F;simp only[an];intro U aa af al ad ae ai au aY cN;simp(disch:=omega) [aI,a6,dT,t1,t3,f0,f1,f2,f3,f4,f5,f6,f7,f13,f30] at U aa af al ad ae ai au aY cN;clear f0 f1 f2 f3 f4 f5 f6 f7 f13 f30;have f0:=U;have f1:=aa;have f2:=af;have f3:=al;have f4:=ad;have f5:=ae;have f6:=ai;have f7:=au;have f13:=aY;have f30:=cN;clear U aa af al ad ae ai au aY cN)))
      | (refine aL _ (by simp(disch:=omega) [aI,a6,dT,t1,t3,f0,f1,f2,f3,f4,f5,f6,f7,f13,f30];rfl) (fun I=>?_) (fun I=>?_)<;>first|(exfalso;simp(disch:=omega) [aI,a6,dT,t1,t3] at I;done)|(exfalso;simp at I;omega)|(simp at I))
      | ((first|refine aH ?_|refine aQ ?_);simp(disch:=omega) [aI,a6,dT,t1,t3,f0,f1,f2,f3,f4,f5,f6,f7,f13,f30]))
end
section
attribute [local irreducible] ck
attribute [local simp] ed ef dm
theorem cl {a b:Nat}:aw a=aw b↔a=b:=by simp[b2,b6]
theorem cp {a b:List Nat} {e:Bool}:cF a e=cF b e↔a=b:=by simp[b2]
theorem ct {a b:List Int} {e:Bool}:bF a e=bF b e↔a=b:=by simp[cn]
abbrev qr (q:Rat):J:= .agg [.bool (bK q.num),aw q.num.natAbs,aw q.den]
theorem cu {a b:Rat}:qr a=qr b↔a=b:=by
 constructor
 · intro h
   simp only[J.agg.injEq,List.cons.injEq,J.bool.injEq,cl,and_true] at h
   exact Rat.ext (FE.1 ⟨h.1,h.2.1⟩) h.2.2
 · rintro rfl;rfl
def lP (m k:Nat):List Nat:=(List.range k).map fun j=>m/ay j%4294967296
theorem z' (m k:Nat):(lP m k).length=k:=by simp[lP]
theorem GD (m k:Nat):lP m (k+1)=lP m k++ [m/ay k%4294967296]:=by simp[lP,List.range_succ]
theorem Pc (m k:Nat):Small (lP m k):=fun x ak=>by
 obtain⟨j,_,rfl⟩:=List.mem_map.1 ak
 exact Nat.mod_lt _ (by decide)
theorem GF (m:Nat):∀k,val (lP m k)=m%ay k
 | 0=>by rw[ft,Nat.mod_one];rfl
 | k+1=>by rw[GD,lO,GF m k,z',mn];simp[val]
theorem Pd {u s:Nat} (aG:s<32):((u%4294967296)/2^s)|||((u/4294967296%4294967296)*4294967296/2^s%4294967296)=u/2^s%4294967296:=by
 obtain⟨k,aE⟩:∃k,k=2^s:=⟨_,rfl⟩
 obtain⟨m,hm⟩:∃m,m=2^(32 - s):=⟨_,rfl⟩
 have a6:(4294967296:Nat)=m*k:=by rw[hm,aE,<-Nat.pow_add,show 32 - s+s=32 by omega]
 have w6:0<k:=by rw[aE];exact Nat.pow_pos (by decide)
 have lz:0<m:=by rw[hm];exact Nat.pow_pos (by decide)
 rw[<-aE]
 have aq:∀y,y*4294967296/k=m*y:=fun y=>by
  rw[a6,show y*(m*k)=m*y*k by grind,Nat.mul_div_cancel _ w6]
 rw[aq]
 obtain⟨x,y,w,ak,bd,hu⟩:∃x y w,x<4294967296/\y<4294967296/\u=x+4294967296*(y+4294967296*w):=⟨u%4294967296,u/4294967296%4294967296,u/4294967296/4294967296,Nat.mod_lt _ (by decide),Nat.mod_lt _ (by decide),by omega⟩
 rw[show u%4294967296=x by omega,show u/4294967296%4294967296=y by omega]
 have Pe:x/k<m:=by rw[Nat.div_lt_iff_lt_mul w6,<-a6];exact ak
 have aB:u/k=x/k+m*(y+4294967296*w):=by
  rw[hu,show x+4294967296*(y+4294967296*w)=x+k*(m*(y+4294967296*w)) by rw[<-Nat.mul_assoc,Nat.mul_comm k m,<-a6],Nat.add_mul_div_left _ _ w6]
 have bg:m*y%4294967296=m*(y%k):=by rw[a6,Nat.mul_mod_mul_left]
 have bT:u/k%4294967296=x/k+m*(y%k):=by
  rw[aB,show x/k+m*(y+4294967296*w)=(x/k+m*(y%k))+4294967296*(y/k+m*w) by
   have:=Nat.div_add_mod y k
   rw[a6];grind]
  rw[Nat.add_mul_mod_self_left,Nat.mod_eq_of_lt]
  have ab:y%k+1<=k:=Nat.mod_lt _ w6
  have h2:m*(y%k+1)<=m*k:=Nat.mul_le_mul_left m ab
  rw[Nat.mul_add] at h2
  omega
 rw[bg,bT,hm,Nat.or_comm,<-Nat.two_pow_add_eq_or_of_lt (by rw[<-hm];exact Pe)]
 omega
def w7 (m i:Nat) (s:a'):Prop:=dh 1 s.h (s.F 7) ((lP m i).map fun n=> .int .u32 (Z n))
noncomputable def Aa:FuncId->Option (List J->Option J):=dn [(170,kl),(239,p4)]
theorem Ab:∀f T,Aa f=some T->br Tryz.prog G f T:=dr (by simp only[List.forall_mem_cons];exact⟨o3,zU,fun _ h=>absurd h (by simp)⟩)
theorem Pf:Aa 170=some kl:=rfl
theorem Pg:Aa 239=some p4:=rfl
attribute [local simp] Pf Pg
noncomputable def lQ:List J->Option J:=cd (fun z:Nat × Nat=>(ah z.1).length<=100000000/\z.2<=10000000000) (fun z=>[aw z.1,bt z.2]) (fun z=>aw (z.1/2^z.2))
theorem GG (z:Nat × Nat) (h:(ah z.1).length<=100000000/\z.2<=10000000000) {args:List J} (he:args.map J.loose= [aw z.1,bt z.2]):lQ args=some (aw (z.1/2^z.2)):=cU (fun z w h=>by first|(simp only[List.cons.injEq,J.int.injEq,J.bool.injEq,J.sl.injEq,cl,cm,ct,cu,cp,b2,b6,cn,bY,true_and,and_true] at h;simp[h];done)|(simp only[J.agg.injEq,List.cons.injEq,J.int.injEq,J.bool.injEq,J.sl.injEq,cl,cm,ct,cu,cp,b2,b6,cn,bY,true_and,and_true] at h;simp[h])) z h he
theorem Ac:br Tryz.prog G 173 lQ:=by
 refine cG mixed Ab ES fun z aP=>?_
 obtain⟨a,n⟩:=z
 obtain⟨cE,ar⟩:=aP
 simp only at cE ar|-
 have bh:=dO a
 obtain⟨w,hw⟩:∃w,w=n/32:=⟨_,rfl⟩
 obtain⟨r,ba⟩:∃r,r=n%32:=⟨_,rfl⟩
 have om:r<32:=by omega
 have Ad:2^n=ay w*2^r:=by rw[lf,<-Nat.pow_add,show 32*w+r=n by omega]
 obtain⟨L,a8⟩:∃L,L=(ah a).length:=⟨_,rfl⟩
 have aI:a<ay L:=c5.1 (by omega)
 unfold i173
 by_cases q8:L<=w
 · have cK:ah (a/2^n)= []:=jO.2 (by
    rw[Ad,<-Nat.div_div_eq_div_mul,Nat.div_eq_of_lt (Nat.lt_of_lt_of_le aI (l6 q8)),Nat.zero_div])
   generalize a/2^n=b at*
   refine ao [0,1,4,5,6,7,8,16,20,21,22] fun F=>?_
   simp only[an]
   intro f0 f1 f4 f5 f6 f7 f8 f16 f20 f21 f22
   simp[bj] at f0 f1 f4 f5 f6 f7 f8 f16 f20 f21 f22
   repeat' (first
    | refine aC ?_
    | ((fail_if_success (refine aT ?_));(fail_if_success (refine aU ?_));refine aO ?_)
    | ((first|(refine aD aN ?_;simp(disch:=omega) [<-hw,<-ba,<-a8,q8,f0,f1,f4,f5,f6,f7,f8,f16,f20,f21,f22];(try(refine⟨by first|decide|rfl,?_⟩)))|(refine aM ?_;simp(disch:=omega) [<-hw,<-ba,<-a8,q8,f0,f1,f4,f5,f6,f7,f8,f16,f20,f21,f22]));(try(refine ao [0,1,4,5,6,7,8,16,20,21,22] ?_;intro F;simp only[an];intro U aa ad ae ai au az b9 b8 d_ cc;simp(disch:=omega) [<-hw,<-ba,<-a8,q8,f0,f1,f4,f5,f6,f7,f8,f16,f20,f21,f22] at U aa ad ae ai au az b9 b8 d_ cc;clear f0 f1 f4 f5 f6 f7 f8 f16 f20 f21 f22;have f0:=U;have f1:=aa;have f4:=ad;have f5:=ae;have f6:=ai;have f7:=au;have f8:=az;have f16:=b9;have f20:=b8;have f21:=d_;have f22:=cc;clear U aa ad ae ai au az b9 b8 d_ cc)))
    | (refine aL _ (by simp(disch:=omega) [<-hw,<-ba,<-a8,q8,f0,f1,f4,f5,f6,f7,f8,f16,f20,f21,f22];rfl) (fun I=>?_) (fun I=>?_)<;>first|(exfalso;simp(disch:=omega) [<-hw,<-ba,<-a8,q8] at I;done)|(exfalso;simp at I;omega)|(simp at I))
    | ((first|refine aH ?_|refine aQ ?_);simp(disch:=omega) [<-hw,<-ba,<-a8,q8,f0,f1,f4,f5,f6,f7,f8,f16,f20,f21,f22,cK]))
 · have gh:IntKind.i64.wrap (Z L - Z w)=Z (L - w):=dp (by omega) (by omega)
   have bO:w<L:=by omega
   refine ao [0,1,4,5,6,7,8,16,20,21,22] fun F=>?_
   simp only[an]
   intro f0 f1 f4 f5 f6 f7 f8 f16 f20 f21 f22
   simp[bj] at f0 f1 f4 f5 f6 f7 f8 f16 f20 f21 f22
   repeat' (first
    | refine aC ?_
    | ((fail_if_success (refine aT ?_));(fail_if_success (refine aU ?_));refine aO ?_)
    | ((first|(refine aD aN ?_;simp(disch:=omega) [<-hw,<-ba,<-a8,bO,gh,f0,f1,f4,f5,f6,f7,f8,f16,f20,f21,f22];(try(refine⟨by first|decide|rfl,?_⟩)))|(refine aM ?_;simp(disch:=omega) [<-hw,<-ba,<-a8,bO,gh,f0,f1,f4,f5,f6,f7,f8,f16,f20,f21,f22]));(try(refine ao [0,1,4,5,6,7,8,16,20,21,22] ?_;intro F;simp only[an];intro U aa ad ae ai au az b9 b8 d_ cc;simp(disch:=omega) [<-hw,<-ba,<-a8,bO,gh,f0,f1,f4,f5,f6,f7,f8,f16,f20,f21,f22] at U aa ad ae ai au az b9 b8 d_ cc;clear f0 f1 f4 f5 f6 f7 f8 f16 f20 f21 f22;have f0:=U;have f1:=aa;have f4:=ad;have f5:=ae;have f6:=ai;have f7:=au;have f8:=az;have f16:=b9;have f20:=b8;have f21:=d_;have f22:=cc;clear U aa ad ae ai au az b9 b8 d_ cc)))
    | (refine aL _ (by simp(disch:=omega) [<-hw,<-ba,<-a8,bO,gh,f0,f1,f4,f5,f6,f7,f8,f16,f20,f21,f22];rfl) (fun I=>?_) (fun I=>?_)<;>first|(exfalso;simp(disch:=omega) [<-hw,<-ba,<-a8,bO,gh] at I;done)|(exfalso;simp at I;omega)|(simp at I))
    | ((first|refine aH ?_|refine aQ ?_);simp(disch:=omega) [<-hw,<-ba,<-a8,bO,gh,f0,f1,f4,f5,f6,f7,f8,f16,f20,f21,f22]))
   refine kO (L - w) (fun i s=>w7 (a/2^n) i s/\s.F 21=bt i) (w7 (a/2^n) (L - w)) (fun _=>False) ?_ ?_ ?_ (fun _ _ h=>h.elim)
   · refine⟨?_,f21⟩
     show dh 1 _ _ []
     simp only[f7]
     exact dh.nil (by simp)
   · rintro i s ag aE ⟨a3,Ph⟩
     replace f0:=(aE 0 rfl).trans f0;replace f5:=(aE 5 rfl).trans f5;replace f6:=(aE 6 rfl).trans f6;replace f20:=(aE 20 rfl).trans f20
     clear f7 f21
     unfold w7 at a3
     obtain⟨v,aR⟩:∃v,v=s.F 7:=⟨_,rfl⟩
     rw[<-aR] at a3
     have f7:=aR.symm
     have f21:=Ph
     refine ao [0,5,6,7,8,20,21,22] ?_
     intro F
     simp only[an]
     intro U ae ai au az b8 d_ cc
     try simp[aJ,f0,f5,f6,f7,f20,f21] at U ae ai au az b8 d_ cc
     clear f0 f5 f6 f7 f20 f21
     have f0:=U
     have f5:=ae
     have f6:=ai
     have f7:=au
     have f8:=az
     have f20:=b8
     have f21:=d_
     have f22:=cc
     clear U ae ai au az b8 d_ cc
     have vR:=a3.c0
     by_cases aW:i<L - w
     · have cR:=(kj (show w+i<(ah a).length by omega)).symm
       have ak:=bh.aS (w+i)
       have bd:=bh.aS (w+i+1)
       have t1:=zT (e:=false) (i:=w+i+1) bh (by omega)
       have lm:=Pd (u:=a/ay (w+i)) om
       rw[<-pW,<-fV,<-fV] at lm
       have bA:a/ay (w+i)/2^r=a/2^n/ay i:=by
        rw[Ad,gw,Nat.div_div_eq_div_mul,Nat.div_div_eq_div_mul]
        congr 1;grind
       rw[bA] at lm
       have bJ:min r 32=r:=by omega
       have ca:min r 64=r:=by omega
       have mx:aS (ah a) (w+i+1)*4294967296<18446744073709551616:=by omega
       have sV:a/2^n/ay i%4294967296<4294967296:=Nat.mod_lt _ (by decide)
       have my:=z' (a/2^n) i
       have ap:=qT a3 (by decide) (bytes:=4) (by decide) (ys:=[J.int .u32 (Z (a/2^n/ay i%4294967296))]) (by simp) (by simp[J.cells,J.c0]) (by simp[my];omega)
       have gO:=a3.app (ys:=[J.int .u32 (Z (a/2^n/ay i%4294967296))]) (by simp) (by simp[J.cells])
       have bg:((lP (a/2^n) i).map fun n=>J.int .u32 (Z n))++ [J.int .u32 (Z (a/2^n/ay i%4294967296))]=(lP (a/2^n) (i+1)).map fun n=>J.int .u32 (Z n):=by rw[GD];simp
       rw[bg] at ap gO
       have bT:((lP (a/2^n) i).map fun n=>J.int .u32 (Z n)).length+ [J.int .u32 (Z (a/2^n/ay i%4294967296))].length=i+1:=by simp[my]
       rw[bT] at ap gO
       generalize Ae:(lP (a/2^n) (i+1)).map (fun n=>J.int .u32 (Z n))=ec at ap gO
       repeat' (first
        | refine aC ?_
        | ((fail_if_success (refine aT ?_));(fail_if_success (refine aU ?_));refine aO ?_)
        | ((first|(refine aD aN ?_;simp(disch:=omega) [aW,cR,t1,lm,bJ,ca,mx,sV,ap,<-a8,f0,f5,f6,f7,f8,f20,f21,f22];(try(refine⟨by first|decide|rfl,?_⟩)))|(refine aM ?_;simp(disch:=omega) [aW,cR,t1,lm,bJ,ca,mx,sV,ap,<-a8,f0,f5,f6,f7,f8,f20,f21,f22]));(try(refine ao [0,5,6,7,8,20,21,22] ?_;intro F;simp only[an];intro U ae ai au az b8 d_ cc;simp(disch:=omega) [aW,cR,t1,lm,bJ,ca,mx,sV,ap,<-a8,f0,f5,f6,f7,f8,f20,f21,f22] at U ae ai au az b8 d_ cc;clear f0 f5 f6 f7 f8 f20 f21 f22;have f0:=U;have f5:=ae;have f6:=ai;have f7:=au;have f8:=az;have f20:=b8;have f21:=d_;have f22:=cc;clear U ae ai au az b8 d_ cc)))
        | (refine aL _ (by simp(disch:=omega) [aW,cR,t1,lm,bJ,ca,mx,sV,ap,<-a8,f0,f5,f6,f7,f8,f20,f21,f22];rfl) (fun I=>?_) (fun I=>?_)<;>first|(exfalso;simp(disch:=omega) [aW,cR,t1,lm,bJ,ca,mx,sV,ap,<-a8] at I;done)|(exfalso;simp at I;omega)|(simp at I))
        | ((first|refine aH ?_|refine aQ ?_);simp(disch:=omega) [aW,cR,t1,lm,bJ,ca,mx,sV,ap,<-a8,f0,f5,f6,f7,f8,f20,f21,f22]))
       show dh 1 _ (F 7) _
       rw[f7,Ae]
       exact gO _ _ _ _ _ (by omega) (by omega)
     · have oq:i=L - w:=by omega
       subst oq
       repeat' (first
        | refine aC ?_
        | ((fail_if_success (refine aT ?_));(fail_if_success (refine aU ?_));refine aO ?_)
        | ((first|(refine aD aN ?_;simp(disch:=omega) [aW,f0,f5,f6,f7,f8,f20,f21,f22];(try(refine⟨by first|decide|rfl,?_⟩)))|(refine aM ?_;simp(disch:=omega) [aW,f0,f5,f6,f7,f8,f20,f21,f22]));(try(refine ao [0,5,6,7,8,20,21,22] ?_;intro F;simp only[an];intro U ae ai au az b8 d_ cc;simp(disch:=omega) [aW,f0,f5,f6,f7,f8,f20,f21,f22] at U ae ai au az b8 d_ cc;clear f0 f5 f6 f7 f8 f20 f21 f22;have f0:=U;have f5:=ae;have f6:=ai;have f7:=au;have f8:=az;have f20:=b8;have f21:=d_;have f22:=cc;clear U ae ai au az b8 d_ cc)))
        | (refine aL _ (by simp(disch:=omega) [aW,f0,f5,f6,f7,f8,f20,f21,f22];rfl) (fun I=>?_) (fun I=>?_)<;>first|(exfalso;simp(disch:=omega) [aW] at I;done)|(exfalso;simp at I;omega)|(simp at I))
        | ((first|refine aH ?_|refine aQ ?_);simp(disch:=omega) [aW,f0,f5,f6,f7,f8,f20,f21,f22]))
       show dh 1 _ (F 7) _
       rw[f7]
       exact a3.bump _ (by omega)
   · intro s aE a3
     clear f7 f21
     unfold w7 at a3
     obtain⟨v,aR⟩:∃v,v=s.F 7:=⟨_,rfl⟩
     rw[<-aR] at a3
     have f7:=aR.symm
     obtain⟨ids,aK⟩:=a3.out (uW _)
     have my:=z' (a/2^n) (L - w)
     have bW:=ou (l:=lP (a/2^n) (L - w)) (e:=decide (((lP (a/2^n) (L - w)).map fun n=>J.int .u32 (Z n))= [])) (Pc _ _) (by omega)
     have GH:a/2^n<ay (L - w):=by
      rw[Ad,<-Nat.div_div_eq_div_mul]
      refine Nat.lt_of_le_of_lt (Nat.div_le_self _ _) ?_
      rw[Nat.div_lt_iff_lt_mul (g3 w),<-gw,show L - w+w=L by omega]
      exact aI
     rw[GF,Nat.mod_eq_of_lt GH] at bW
     refine ao [4,7] ?_
     intro F
     simp only[an]
     intro ad au
     try simp[aJ,f7] at ad au
     clear f7
     have f4:=ad
     have f7:=au
     clear ad au
     generalize ((lP (a/2^n) (L - w)).map fun n=>J.int .u32 (Z n))=xs at*
     repeat' (first
      | refine aC ?_
      | ((fail_if_success (refine aT ?_));(fail_if_success (refine aU ?_));refine aO ?_)
      | ((first|(refine aD aN ?_;simp(disch:=omega) [aK,bW,f4,f7];(try(refine⟨by first|decide|rfl,?_⟩)))|(refine aM ?_;simp(disch:=omega) [aK,bW,f4,f7]));(try(refine ao [4,7] ?_;intro F;simp only[an];intro ad au;simp(disch:=omega) [aK,bW,f4,f7] at ad au;clear f4 f7;have f4:=ad;have f7:=au;clear ad au)))
      | (refine aL _ (by simp(disch:=omega) [aK,bW,f4,f7];rfl) (fun I=>?_) (fun I=>?_)<;>first|(exfalso;simp(disch:=omega) [aK,bW] at I;done)|(exfalso;simp at I;omega)|(simp at I))
      | ((first|refine aH ?_|refine aQ ?_);simp(disch:=omega) [aK,bW,f4,f7]))
noncomputable def w8:List J->Option J:=cd (fun z:Nat=>z<18446744073709551616) (fun z=>[fj z]) (fun z=>aw z)
theorem GI (z:Nat) (h:z<18446744073709551616) {args:List J} (he:args.map J.loose= [fj z]):w8 args=some (aw z):=cU (fun z w h=>by first|(simp only[List.cons.injEq,J.int.injEq,J.bool.injEq,J.sl.injEq,cl,cm,ct,cu,cp,b2,b6,cn,bY,true_and,and_true] at h;simp[h];done)|(simp only[J.agg.injEq,List.cons.injEq,J.int.injEq,J.bool.injEq,J.sl.injEq,cl,cm,ct,cu,cp,b2,b6,cn,bY,true_and,and_true] at h;simp[h])) z h he
theorem Pj:br Tryz.prog G 180 w8:=by
 refine cG mixed Ab EY fun n ar=>?_
 have e:=ou (l:=[n%4294967296,n/4294967296]) (e:=true) (ld.2 ⟨by omega,ld.2 ⟨by omega,Small.nil⟩⟩) (by simp)
 rw[val_two ar] at e
 simp only[List.map_cons,List.map_nil] at e
 have ab:n/4294967296%4294967296=n/4294967296:=Nat.mod_eq_of_lt (by omega)
 unfold i180
 refine ao [0,2] fun F=>?_
 simp only[an]
 intro f0 f2
 simp[bj] at f0 f2
 repeat' (first
  | refine aC ?_
  | ((fail_if_success (refine aT ?_));(fail_if_success (refine aU ?_));refine aO ?_)
  | ((first|(refine aD aN ?_;simp(disch:=omega) [e,ab,f0,f2];(try(refine⟨by first|decide|rfl,?_⟩)))|(refine aM ?_;simp(disch:=omega) [e,ab,f0,f2]));(try(refine ao [0,2] ?_;intro F;simp only[an];intro U af;simp(disch:=omega) [e,ab,f0,f2] at U af;clear f0 f2;have f0:=U;have f2:=af;clear U af)))
  | (refine aL _ (by simp(disch:=omega) [e,ab,f0,f2];rfl) (fun I=>?_) (fun I=>?_)<;>first|(exfalso;simp(disch:=omega) [e,ab] at I;done)|(exfalso;simp at I;omega)|(simp at I))
  | ((first|refine aH ?_|refine aQ ?_);simp(disch:=omega) [e,ab,f0,f2]))
noncomputable def Af:List J->Option J:=cd (fun z:List Nat=>z.length<=1000000000) (fun z=>[cF z false]) (fun z=> .bool (p1 z))
theorem Pk:br Tryz.prog G 209 Af:=by
 refine cG mixed Ab E8 fun l aV=>?_
 unfold i209
 by_cases ab:l= []
 · subst ab
   have e:p1 []=true:=rfl
   refine ao [0,2] fun F=>?_
   simp only[an]
   intro f0 f2
   simp[bj] at f0 f2
   repeat' (first
    | refine aC ?_
    | ((fail_if_success (refine aT ?_));(fail_if_success (refine aU ?_));refine aO ?_)
    | ((first|(refine aD aN ?_;simp(disch:=omega) [f0,f2];(try(refine⟨by first|decide|rfl,?_⟩)))|(refine aM ?_;simp(disch:=omega) [f0,f2]));(try(refine ao [0,2] ?_;intro F;simp only[an];intro U af;simp(disch:=omega) [f0,f2] at U af;clear f0 f2;have f0:=U;have f2:=af;clear U af)))
    | (refine aL _ (by simp(disch:=omega) [f0,f2];rfl) (fun I=>?_) (fun I=>?_)<;>first|(exfalso;simp(disch:=omega) at I;done)|(exfalso;simp at I;omega)|(simp at I))
    | ((first|refine aH ?_|refine aQ ?_);simp(disch:=omega) [f0,f2,e]))
 · obtain⟨L,a8⟩:∃L,l.length=L+1:=⟨l.length - 1,by have:=List.length_pos_iff.2 ab;omega⟩
   have bp:=(kj (show L<l.length by omega)).symm
   have e:p1 l=decide (L+1<=65536/\aS l L≠0):=by simp[p1,ab,a8]
   by_cases h2:L+1<=65536
   · by_cases aX:aS l L=0
     · skip
       refine ao [0,2] fun F=>?_
       simp only[an]
       intro f0 f2
       simp[bj] at f0 f2
       repeat' (first
        | refine aC ?_
        | ((fail_if_success (refine aT ?_));(fail_if_success (refine aU ?_));refine aO ?_)
        | ((first|(refine aD aN ?_;simp(disch:=omega) [ab,a8,h2,bp,aX,bne,dp,f0,f2];(try(refine⟨by first|decide|rfl,?_⟩)))|(refine aM ?_;simp(disch:=omega) [ab,a8,h2,bp,aX,bne,dp,f0,f2]));(try(refine ao [0,2] ?_;intro F;simp only[an];intro U af;simp(disch:=omega) [ab,a8,h2,bp,aX,bne,dp,f0,f2] at U af;clear f0 f2;have f0:=U;have f2:=af;clear U af)))
        | (refine aL _ (by simp(disch:=omega) [ab,a8,h2,bp,aX,bne,dp,f0,f2];rfl) (fun I=>?_) (fun I=>?_)<;>first|(exfalso;simp(disch:=omega) [ab,a8,h2,bp,aX,bne,dp] at I;done)|(exfalso;simp at I;omega)|(simp at I))
        | ((first|refine aH ?_|refine aQ ?_);simp(disch:=omega) [ab,a8,h2,bp,aX,bne,dp,f0,f2,e]))
     · skip
       refine ao [0,2] fun F=>?_
       simp only[an]
       intro f0 f2
       simp[bj] at f0 f2
       repeat' (first
        | refine aC ?_
        | ((fail_if_success (refine aT ?_));(fail_if_success (refine aU ?_));refine aO ?_)
        | ((first|(refine aD aN ?_;simp(disch:=omega) [ab,a8,h2,bp,aX,bne,dp,f0,f2];(try(refine⟨by first|decide|rfl,?_⟩)))|(refine aM ?_;simp(disch:=omega) [ab,a8,h2,bp,aX,bne,dp,f0,f2]));(try(refine ao [0,2] ?_;intro F;simp only[an];intro U af;simp(disch:=omega) [ab,a8,h2,bp,aX,bne,dp,f0,f2] at U af;clear f0 f2;have f0:=U;have f2:=af;clear U af)))
        | (refine aL _ (by simp(disch:=omega) [ab,a8,h2,bp,aX,bne,dp,f0,f2];rfl) (fun I=>?_) (fun I=>?_)<;>first|(exfalso;simp(disch:=omega) [ab,a8,h2,bp,aX,bne,dp] at I;done)|(exfalso;simp at I;omega)|(simp at I))
        | ((first|refine aH ?_|refine aQ ?_);simp(disch:=omega) [ab,a8,h2,bp,aX,bne,dp,f0,f2,e]))
   · skip
     refine ao [0,2] fun F=>?_
     simp only[an]
     intro f0 f2
     simp[bj] at f0 f2
     repeat' (first
      | refine aC ?_
      | ((fail_if_success (refine aT ?_));(fail_if_success (refine aU ?_));refine aO ?_)
      | ((first|(refine aD aN ?_;simp(disch:=omega) [ab,a8,h2,f0,f2];(try(refine⟨by first|decide|rfl,?_⟩)))|(refine aM ?_;simp(disch:=omega) [ab,a8,h2,f0,f2]));(try(refine ao [0,2] ?_;intro F;simp only[an];intro U af;simp(disch:=omega) [ab,a8,h2,f0,f2] at U af;clear f0 f2;have f0:=U;have f2:=af;clear U af)))
      | (refine aL _ (by simp(disch:=omega) [ab,a8,h2,f0,f2];rfl) (fun I=>?_) (fun I=>?_)<;>first|(exfalso;simp(disch:=omega) [ab,a8,h2] at I;done)|(exfalso;simp at I;omega)|(simp at I))
      | ((first|refine aH ?_|refine aQ ?_);simp(disch:=omega) [ab,a8,h2,f0,f2,e]))
end
section
attribute [local irreducible] ck
attribute [local simp] ed ef dm
def j8 (z:Int):Int:=if z=0 then 0 else if z<0 then -1 else 1
theorem GJ {a:Int} {k:Nat}:cb a<=k↔a.natAbs<ay k:=c5
theorem GK (a:Int):cb (-a)=cb a:=by simp[cb]
theorem Ag (a b:Int):cb (a+b)<=max (cb a) (cb b)+1:=by
 have ab:(a+b).natAbs<=a.natAbs+b.natAbs:=Int.natAbs_add_le a b
 have h2:=kk a.natAbs b.natAbs
 have aX:=fW ab
 simp only[cb] at*;omega
theorem Pl (a b:Int):cb (a - b)<=max (cb a) (cb b)+1:=by
 have:=Ag a (-b)
 rw[GK] at this
 rwa [Int.sub_eq_add_neg]
theorem Pm (a b:Int):cb (a*b)<=cb a+cb b:=by
 have:=kP a.natAbs b.natAbs
 rwa [<-Int.natAbs_mul] at this
theorem Pn (b:Bool) (n:Nat):cb (dK b n)=(ah n).length:=by rw[cb,z9]
noncomputable def GL:FuncId->Option (List J->Option J):=dn [(170,kl)]
theorem Po:∀f T,GL f=some T->br Tryz.prog G f T:=dr (by simp only[List.forall_mem_cons];exact⟨o3,fun _ h=>absurd h (by simp)⟩)
theorem Pp:GL 170=some kl:=rfl
attribute [local simp] Pp
noncomputable def mz:List J->Option J:=cd (fun z:Bool × List Nat=>Small z.2/\z.2.length<=1073741824) (fun z=>[.bool z.1,cF z.2 false]) (fun z=>bk (dK z.1 (val z.2)))
theorem Pq (z:Bool × List Nat) (h:Small z.2/\z.2.length<=1073741824) {args:List J} (he:args.map J.loose= [.bool z.1,cF z.2 false]):mz args=some (bk (dK z.1 (val z.2))):=cU (fun z w h=>by first|(simp only[List.cons.injEq,J.int.injEq,J.bool.injEq,J.sl.injEq,cl,cm,ct,cu,cp,b2,b6,cn,bY,true_and,and_true] at h;simp[h];done)|(simp only[J.agg.injEq,List.cons.injEq,J.int.injEq,J.bool.injEq,J.sl.injEq,cl,cm,ct,cu,cp,b2,b6,cn,bY,true_and,and_true] at h;simp[h])) z h he
theorem u6:br Tryz.prog G 84 mz:=by
 refine cG mixed Po Ex fun z aP=>?_
 obtain⟨b,l⟩:=z
 obtain⟨aG,aV⟩:=aP
 simp only at aG aV|-
 have t:=ou (e:=false) aG aV
 have bz:=z8 b (val l)
 have bR:=z9 b (val l)
 unfold i84
 by_cases aR:val l=0
 · have ar:ah (val l)= []:=jO.2 aR
   have bA:decide (val l≠0)=false:=decide_eq_false (fun h=>h aR)
   rw[bA] at bz
   cases b
   · skip
     refine ao [0,1,4,5] fun F=>?_
     simp only[an]
     intro f0 f1 f4 f5
     simp[bj] at f0 f1 f4 f5
     repeat' (first
      | refine aC ?_
      | ((fail_if_success (refine aT ?_));(fail_if_success (refine aU ?_));refine aO ?_)
      | ((first|(refine aD aN ?_;simp(disch:=omega) [t,ar,f0,f1,f4,f5];(try(refine⟨by first|decide|rfl,?_⟩)))|(refine aM ?_;simp(disch:=omega) [t,ar,f0,f1,f4,f5]));(try(refine ao [0,1,4,5] ?_;intro F;simp only[an];intro U aa ad ae;simp(disch:=omega) [t,ar,f0,f1,f4,f5] at U aa ad ae;clear f0 f1 f4 f5;have f0:=U;have f1:=aa;have f4:=ad;have f5:=ae;clear U aa ad ae)))
      | (refine aL _ (by simp(disch:=omega) [t,ar,f0,f1,f4,f5];rfl) (fun I=>?_) (fun I=>?_)<;>first|(exfalso;simp(disch:=omega) [t,ar] at I;done)|(exfalso;simp at I;omega)|(simp at I))
      | ((first|refine aH ?_|refine aQ ?_);simp(disch:=omega) [t,ar,f0,f1,f4,f5,bz,bR]))
   · skip
     refine ao [0,1,4,5] fun F=>?_
     simp only[an]
     intro f0 f1 f4 f5
     simp[bj] at f0 f1 f4 f5
     repeat' (first
      | refine aC ?_
      | ((fail_if_success (refine aT ?_));(fail_if_success (refine aU ?_));refine aO ?_)
      | ((first|(refine aD aN ?_;simp(disch:=omega) [t,ar,f0,f1,f4,f5];(try(refine⟨by first|decide|rfl,?_⟩)))|(refine aM ?_;simp(disch:=omega) [t,ar,f0,f1,f4,f5]));(try(refine ao [0,1,4,5] ?_;intro F;simp only[an];intro U aa ad ae;simp(disch:=omega) [t,ar,f0,f1,f4,f5] at U aa ad ae;clear f0 f1 f4 f5;have f0:=U;have f1:=aa;have f4:=ad;have f5:=ae;clear U aa ad ae)))
      | (refine aL _ (by simp(disch:=omega) [t,ar,f0,f1,f4,f5];rfl) (fun I=>?_) (fun I=>?_)<;>first|(exfalso;simp(disch:=omega) [t,ar] at I;done)|(exfalso;simp at I;omega)|(simp at I))
      | ((first|refine aH ?_|refine aQ ?_);simp(disch:=omega) [t,ar,f0,f1,f4,f5,bz,bR]))
 · have ar:0<(ah (val l)).length:=mo.2 aR
   have dP:¬ah (val l)= []:=fun h=>aR (jO.1 h)
   have bA:decide (val l≠0)=true:=decide_eq_true aR
   rw[bA] at bz
   cases b
   · skip
     refine ao [0,1,4,5] fun F=>?_
     simp only[an]
     intro f0 f1 f4 f5
     simp[bj] at f0 f1 f4 f5
     repeat' (first
      | refine aC ?_
      | ((fail_if_success (refine aT ?_));(fail_if_success (refine aU ?_));refine aO ?_)
      | ((first|(refine aD aN ?_;simp(disch:=omega) [t,ar,f0,f1,f4,f5];(try(refine⟨by first|decide|rfl,?_⟩)))|(refine aM ?_;simp(disch:=omega) [t,ar,f0,f1,f4,f5]));(try(refine ao [0,1,4,5] ?_;intro F;simp only[an];intro U aa ad ae;simp(disch:=omega) [t,ar,f0,f1,f4,f5] at U aa ad ae;clear f0 f1 f4 f5;have f0:=U;have f1:=aa;have f4:=ad;have f5:=ae;clear U aa ad ae)))
      | (refine aL _ (by simp(disch:=omega) [t,ar,f0,f1,f4,f5];rfl) (fun I=>?_) (fun I=>?_)<;>first|(exfalso;simp(disch:=omega) [t,ar] at I;done)|(exfalso;simp at I;omega)|(simp at I))
      | ((first|refine aH ?_|refine aQ ?_);simp(disch:=omega) [t,ar,f0,f1,f4,f5,bz,bR]))
   · skip
     refine ao [0,1,4,5] fun F=>?_
     simp only[an]
     intro f0 f1 f4 f5
     simp[bj] at f0 f1 f4 f5
     repeat' (first
      | refine aC ?_
      | ((fail_if_success (refine aT ?_));(fail_if_success (refine aU ?_));refine aO ?_)
      | ((first|(refine aD aN ?_;simp(disch:=omega) [t,ar,dP,f0,f1,f4,f5];(try(refine⟨by first|decide|rfl,?_⟩)))|(refine aM ?_;simp(disch:=omega) [t,ar,dP,f0,f1,f4,f5]));(try(refine ao [0,1,4,5] ?_;intro F;simp only[an];intro U aa ad ae;simp(disch:=omega) [t,ar,dP,f0,f1,f4,f5] at U aa ad ae;clear f0 f1 f4 f5;have f0:=U;have f1:=aa;have f4:=ad;have f5:=ae;clear U aa ad ae)))
      | (refine aL _ (by simp(disch:=omega) [t,ar,dP,f0,f1,f4,f5];rfl) (fun I=>?_) (fun I=>?_)<;>first|(exfalso;simp(disch:=omega) [t,ar,dP] at I;done)|(exfalso;simp at I;omega)|(simp at I))
      | ((first|refine aH ?_|refine aQ ?_);simp(disch:=omega) [t,ar,dP,f0,f1,f4,f5,bz,bR]))
theorem mA {b:Bool} {n:Nat} (h:(ah n).length<=1073741824):mz [.bool b,aw n]=some (bk (dK b n)):=by
 rw[Pq (b,ah n) ⟨dO n,h⟩ (by simp),dm]
noncomputable def q9:FuncId->Option (List J->Option J):=dn [(84,mz),(180,w8),(171,nb),(174,g5),(185,ox),(209,Af)]
theorem w9:∀f T,q9 f=some T->br Tryz.prog G f T:=dr (by simp only[List.forall_mem_cons];exact⟨u6,Pj,u1,sT,w0,Pk,fun _ h=>absurd h (by simp)⟩)
theorem Pr:q9 84=some mz:=rfl
theorem Ps:q9 180=some w8:=rfl
theorem Pt:q9 171=some nb:=rfl
theorem Pu:q9 174=some g5:=rfl
theorem Pv:q9 185=some ox:=rfl
theorem Pw:q9 209=some Af:=rfl
attribute [local simp] Pr Ps Pt Pu Pv Pw
noncomputable def Ah:List J->Option J:=cd (fun z:Int=> -9223372036854775808<=z/\z<9223372036854775808) (fun z=>[.int .i64 z]) (fun z=>bk z)
theorem Px:br Tryz.prog G 110 Ah:=by
 refine cG mixed w9 EG fun z aP=>?_
 unfold i110
 have aV:∀n,n<18446744073709551616->(ah n).length<=2:=fun n h=>c5.2 (by simp only[ee,ft];omega)
 by_cases aJ:z<0
 · obtain⟨n,ar⟩:∃n:Nat,z= -(n:Int):=⟨z.natAbs,by omega⟩
   have t1:=GI n (by omega) (args:=[fj n]) (by simp)
   have t2:=mA (b:=true) (n:=n) (by have:=aV n (by omega);omega)
   rw[show dK true n=z by simp[dK,ar]] at t2
   have aq:IntKind.i64.wrap (z+Z 1)=z+1:=wrap_i64 (by simp only[Z];omega) (by simp only[Z];omega)
   have aB:IntKind.i64.wrap (-(z+1))=Z (n - 1):=by rw[wrap_i64 (by omega) (by omega)];simp only[Z];omega
   have bg:n - 1+1=n:=by omega
   have bT:n<18446744073709551616:=by omega
   have dv:n - 1<18446744073709551616:=by omega
   have e8:(z<Z 0)=True:=eq_true aJ
   refine ao [0,2,4] fun F=>?_
   simp only[an]
   intro f0 f2 f4
   simp[bj] at f0 f2 f4
   repeat' (first
    | refine aC ?_
    | ((fail_if_success (refine aT ?_));(fail_if_success (refine aU ?_));refine aO ?_)
    | ((first|(refine aD aN ?_;simp(disch:=omega) [t1,t2,aq,aB,bg,bT,dv,e8,f0,f2,f4];(try(refine⟨by first|decide|rfl,?_⟩)))|(refine aM ?_;simp(disch:=omega) [t1,t2,aq,aB,bg,bT,dv,e8,f0,f2,f4]));(try(refine ao [0,2,4] ?_;intro F;simp only[an];intro U af ad;simp(disch:=omega) [t1,t2,aq,aB,bg,bT,dv,e8,f0,f2,f4] at U af ad;clear f0 f2 f4;have f0:=U;have f2:=af;have f4:=ad;clear U af ad)))
    | (refine aL _ (by simp(disch:=omega) [t1,t2,aq,aB,bg,bT,dv,e8,f0,f2,f4];rfl) (fun I=>?_) (fun I=>?_)<;>first|(exfalso;simp(disch:=omega) [t1,t2,aq,aB,bg,bT,dv,e8] at I;done)|(exfalso;simp at I;omega)|(simp at I))
    | ((first|refine aH ?_|refine aQ ?_);simp(disch:=omega) [t1,t2,aq,aB,bg,bT,dv,e8,f0,f2,f4]))
 · obtain⟨n,ar⟩:∃n:Nat,z=n:=⟨z.natAbs,by omega⟩
   have t1:=GI n (by omega) (args:=[fj n]) (by simp)
   have t2:=mA (b:=false) (n:=n) (by have:=aV n (by omega);omega)
   rw[show dK false n=z by simp[dK,ar]] at t2
   have bT:IntKind.u64.wrap z=Z n:=by
    have:=hl n
    rw[ar];simp only[Z] at this|-;rw[this,Nat.mod_eq_of_lt (by omega)]
   have e8:(z<Z 0)=False:=eq_false aJ
   refine ao [0,2,4] fun F=>?_
   simp only[an]
   intro f0 f2 f4
   simp[bj] at f0 f2 f4
   repeat' (first
    | refine aC ?_
    | ((fail_if_success (refine aT ?_));(fail_if_success (refine aU ?_));refine aO ?_)
    | ((first|(refine aD aN ?_;simp(disch:=omega) [t1,t2,bT,e8,f0,f2,f4];(try(refine⟨by first|decide|rfl,?_⟩)))|(refine aM ?_;simp(disch:=omega) [t1,t2,bT,e8,f0,f2,f4]));(try(refine ao [0,2,4] ?_;intro F;simp only[an];intro U af ad;simp(disch:=omega) [t1,t2,bT,e8,f0,f2,f4] at U af ad;clear f0 f2 f4;have f0:=U;have f2:=af;have f4:=ad;clear U af ad)))
    | (refine aL _ (by simp(disch:=omega) [t1,t2,bT,e8,f0,f2,f4];rfl) (fun I=>?_) (fun I=>?_)<;>first|(exfalso;simp(disch:=omega) [t1,t2,bT,e8] at I;done)|(exfalso;simp at I;omega)|(simp at I))
    | ((first|refine aH ?_|refine aQ ?_);simp(disch:=omega) [t1,t2,bT,e8,f0,f2,f4]))
noncomputable def sW:List J->Option J:=cd (fun z:Int=>True) (fun z=>[bk z]) (fun z=> .int .i64 (j8 z))
theorem GM (z:Int) (h:True) {args:List J} (he:args.map J.loose= [bk z]):sW args=some (.int .i64 (j8 z)):=cU (fun z w h=>by first|(simp only[List.cons.injEq,J.int.injEq,J.bool.injEq,J.sl.injEq,cl,cm,ct,cu,cp,b2,b6,cn,bY,true_and,and_true] at h;simp[h];done)|(simp only[J.agg.injEq,List.cons.injEq,J.int.injEq,J.bool.injEq,J.sl.injEq,cl,cm,ct,cu,cp,b2,b6,cn,bY,true_and,and_true] at h;simp[h])) z h he
theorem GN:br Tryz.prog G 87 sW:=by
 refine cG mixed w9 Ez fun z _=>?_
 unfold i87
 by_cases aJ:z=0
 · subst aJ
   have cK:ah 0= []:=fu
   have cM:bK 0=false:=rfl
   have e:j8 0=Z 0:=rfl
   refine ao [0,1,2,3,8] fun F=>?_
   simp only[an]
   intro f0 f1 f2 f3 f8
   simp[bj] at f0 f1 f2 f3 f8
   repeat' (first
    | refine aC ?_
    | ((fail_if_success (refine aT ?_));(fail_if_success (refine aU ?_));refine aO ?_)
    | ((first|(refine aD aN ?_;simp(disch:=omega) [cK,cM,f0,f1,f2,f3,f8];(try(refine⟨by first|decide|rfl,?_⟩)))|(refine aM ?_;simp(disch:=omega) [cK,cM,f0,f1,f2,f3,f8]));(try(refine ao [0,1,2,3,8] ?_;intro F;simp only[an];intro U aa af al az;simp(disch:=omega) [cK,cM,f0,f1,f2,f3,f8] at U aa af al az;clear f0 f1 f2 f3 f8;have f0:=U;have f1:=aa;have f2:=af;have f3:=al;have f8:=az;clear U aa af al az)))
    | (refine aL _ (by simp(disch:=omega) [cK,cM,f0,f1,f2,f3,f8];rfl) (fun I=>?_) (fun I=>?_)<;>first|(exfalso;simp(disch:=omega) [cK,cM] at I;done)|(exfalso;simp at I;omega)|(simp at I))
    | ((first|refine aH ?_|refine aQ ?_);simp(disch:=omega) [cK,cM,f0,f1,f2,f3,f8,e]))
 · have ar:¬ah z.natAbs= []:=fun h=>aJ (by have:=jO.1 h;omega)
   have dP:¬(ah z.natAbs).length=0:=fun h=>ar (List.length_eq_zero_iff.1 h)
   by_cases ab:z<0
   · have e:j8 z= -1:=by simp[j8,aJ,ab]
     have aP:bK z=true:=by simp[bK,ab]
     refine ao [0,1,2,3,8] fun F=>?_
     simp only[an]
     intro f0 f1 f2 f3 f8
     simp[bj] at f0 f1 f2 f3 f8
     repeat' (first
      | refine aC ?_
      | ((fail_if_success (refine aT ?_));(fail_if_success (refine aU ?_));refine aO ?_)
      | ((first|(refine aD aN ?_;simp(disch:=omega) [ar,dP,aP,f0,f1,f2,f3,f8];(try(refine⟨by first|decide|rfl,?_⟩)))|(refine aM ?_;simp(disch:=omega) [ar,dP,aP,f0,f1,f2,f3,f8]));(try(refine ao [0,1,2,3,8] ?_;intro F;simp only[an];intro U aa af al az;simp(disch:=omega) [ar,dP,aP,f0,f1,f2,f3,f8] at U aa af al az;clear f0 f1 f2 f3 f8;have f0:=U;have f1:=aa;have f2:=af;have f3:=al;have f8:=az;clear U aa af al az)))
      | (refine aL _ (by simp(disch:=omega) [ar,dP,aP,f0,f1,f2,f3,f8];rfl) (fun I=>?_) (fun I=>?_)<;>first|(exfalso;simp(disch:=omega) [ar,dP,aP] at I;done)|(exfalso;simp at I;omega)|(simp at I))
      | ((first|refine aH ?_|refine aQ ?_);simp(disch:=omega) [ar,dP,aP,f0,f1,f2,f3,f8,e]))
   · have e:j8 z=1:=by simp[j8,aJ,ab]
     have aP:bK z=false:=by simp[bK,ab]
     refine ao [0,1,2,3,8] fun F=>?_
     simp only[an]
     intro f0 f1 f2 f3 f8
     simp[bj] at f0 f1 f2 f3 f8
     repeat' (first
      | refine aC ?_
      | ((fail_if_success (refine aT ?_));(fail_if_success (refine aU ?_));refine aO ?_)
      | ((first|(refine aD aN ?_;simp(disch:=omega) [ar,dP,aP,f0,f1,f2,f3,f8];(try(refine⟨by first|decide|rfl,?_⟩)))|(refine aM ?_;simp(disch:=omega) [ar,dP,aP,f0,f1,f2,f3,f8]));(try(refine ao [0,1,2,3,8] ?_;intro F;simp only[an];intro U aa af al az;simp(disch:=omega) [ar,dP,aP,f0,f1,f2,f3,f8] at U aa af al az;clear f0 f1 f2 f3 f8;have f0:=U;have f1:=aa;have f2:=af;have f3:=al;have f8:=az;clear U aa af al az)))
      | (refine aL _ (by simp(disch:=omega) [ar,dP,aP,f0,f1,f2,f3,f8];rfl) (fun I=>?_) (fun I=>?_)<;>first|(exfalso;simp(disch:=omega) [ar,dP,aP] at I;done)|(exfalso;simp at I;omega)|(simp at I))
      | ((first|refine aH ?_|refine aQ ?_);simp(disch:=omega) [ar,dP,aP,f0,f1,f2,f3,f8,e]))
noncomputable def sX:List J->Option J:=cd (fun z:Int=>cb z<=100000000) (fun z=>[bk z]) (fun z=>bk (-z))
theorem Py (z:Int) (h:cb z<=100000000) {args:List J} (he:args.map J.loose= [bk z]):sX args=some (bk (-z)):=cU (fun z w h=>by first|(simp only[List.cons.injEq,J.int.injEq,J.bool.injEq,J.sl.injEq,cl,cm,ct,cu,cp,b2,b6,cn,bY,true_and,and_true] at h;simp[h];done)|(simp only[J.agg.injEq,List.cons.injEq,J.int.injEq,J.bool.injEq,J.sl.injEq,cl,cm,ct,cu,cp,b2,b6,cn,bY,true_and,and_true] at h;simp[h])) z h he
theorem GO:br Tryz.prog G 90 sX:=by
 refine cG mixed w9 EA fun z aP=>?_
 simp only[cb] at aP
 have t:=mA (b:=!bK z) (n:=z.natAbs) (by omega)
 rw[show dK (!bK z) z.natAbs= -z by simp only[dK,bK,Bool.not_eq_true',decide_eq_false_iff_not];split<;>omega] at t
 unfold i90
 generalize aI:bK z=s at*
 generalize eN:z.natAbs=n at*
 generalize -z=w at*
 refine ao [0,1,2] fun F=>?_
 simp only[an]
 intro f0 f1 f2
 simp[bj] at f0 f1 f2
 repeat' (first
  | refine aC ?_
  | ((fail_if_success (refine aT ?_));(fail_if_success (refine aU ?_));refine aO ?_)
  | ((first|(refine aD aN ?_;simp(disch:=omega) [aI,eN,t,f0,f1,f2];(try(refine⟨by first|decide|rfl,?_⟩)))|(refine aM ?_;simp(disch:=omega) [aI,eN,t,f0,f1,f2]));(try(refine ao [0,1,2] ?_;intro F;simp only[an];intro U aa af;simp(disch:=omega) [aI,eN,t,f0,f1,f2] at U aa af;clear f0 f1 f2;have f0:=U;have f1:=aa;have f2:=af;clear U aa af)))
  | (refine aL _ (by simp(disch:=omega) [aI,eN,t,f0,f1,f2];rfl) (fun I=>?_) (fun I=>?_)<;>first|(exfalso;simp(disch:=omega) [aI,eN,t] at I;done)|(exfalso;simp at I;omega)|(simp at I))
  | ((first|refine aH ?_|refine aQ ?_);simp(disch:=omega) [aI,eN,t,f0,f1,f2]))
def lj (a b:Int):Int:=if a<b then -1 else if b<a then 1 else 0
noncomputable def o8:List J->Option J:=cd (fun z:Int × Int=>cb z.1<=10000000/\cb z.2<=10000000) (fun z=>[bk z.1,bk z.2]) (fun z=>bk (z.1+z.2))
theorem Ai (z:Int × Int) (h:cb z.1<=10000000/\cb z.2<=10000000) {args:List J} (he:args.map J.loose= [bk z.1,bk z.2]):o8 args=some (bk (z.1+z.2)):=cU (fun z w h=>by first|(simp only[List.cons.injEq,J.int.injEq,J.bool.injEq,J.sl.injEq,cl,cm,ct,cu,cp,b2,b6,cn,bY,true_and,and_true] at h;simp[h];done)|(simp only[J.agg.injEq,List.cons.injEq,J.int.injEq,J.bool.injEq,J.sl.injEq,cl,cm,ct,cu,cp,b2,b6,cn,bY,true_and,and_true] at h;simp[h])) z h he
theorem Aj:br Tryz.prog G 119 o8:=by
 refine cG mixed w9 EJ fun z aP=>?_
 obtain⟨a,b⟩:=z
 obtain⟨bh,aj⟩:=aP
 simp only[cb] at bh aj|-
 have sY:((-1:Int)<Z 0)=True:=eq_true (by decide)
 unfold i119
 by_cases aG:bK a=bK b
 · have t1:=mr (a:=a.natAbs) (b:=b.natAbs) (e:=false) (e':=false) (by omega) (by omega)
   have aV:=kk a.natAbs b.natAbs
   have t2:=mA (b:=bK a) (n:=a.natAbs+b.natAbs) (by omega)
   rw[GA aG] at t2
   generalize aI:bK a=se at*
   generalize a6:bK b=sf at*
   subst aG
   refine ao [0,1,2,3,4,5,11,25] fun F=>?_
   simp only[an]
   intro f0 f1 f2 f3 f4 f5 f11 f25
   simp[bj] at f0 f1 f2 f3 f4 f5 f11 f25
   repeat' (first
    | refine aC ?_
    | ((fail_if_success (refine aT ?_));(fail_if_success (refine aU ?_));refine aO ?_)
    | ((first|(refine aD aN ?_;simp(disch:=omega) [aI,a6,t1,t2,f0,f1,f2,f3,f4,f5,f11,f25];(try(refine⟨by first|decide|rfl,?_⟩)))|(refine aM ?_;simp(disch:=omega) [aI,a6,t1,t2,f0,f1,f2,f3,f4,f5,f11,f25]));(try(refine ao [0,1,2,3,4,5,11,25] ?_;intro F;simp only[an];intro U aa af al ad ae bl bo;simp(disch:=omega) [aI,a6,t1,t2,f0,f1,f2,f3,f4,f5,f11,f25] at U aa af al ad ae bl bo;clear f0 f1 f2 f3 f4 f5 f11 f25;have f0:=U;have f1:=aa;have f2:=af;have f3:=al;have f4:=ad;have f5:=ae;have f11:=bl;have f25:=bo;clear U aa af al ad ae bl bo)))
    | (refine aL _ (by simp(disch:=omega) [aI,a6,t1,t2,f0,f1,f2,f3,f4,f5,f11,f25];rfl) (fun I=>?_) (fun I=>?_)<;>first|(exfalso;simp(disch:=omega) [aI,a6,t1,t2] at I;done)|(exfalso;simp at I;omega)|(simp at I))
    | ((first|refine aH ?_|refine aQ ?_);simp(disch:=omega) [aI,a6,t1,t2,f0,f1,f2,f3,f4,f5,f11,f25]))
 · have dT:(bK a == bK b)=false:=by simpa using aG
   have t0:=u0 (a:=a.natAbs) (b:=b.natAbs) (e:=false) (e':=false) (by omega) (by omega)
   by_cases bO:a.natAbs<b.natAbs
   · have I:dV a.natAbs b.natAbs= -1:=by simp[dV,bO]
     rw[I] at t0
     have t2:=u4 (a:=b.natAbs) (b:=a.natAbs) (e:=false) (e':=false) (by omega) (by omega)
     rw[if_neg (by omega)] at t2
     have t3:=mA (b:=bK b) (n:=b.natAbs - a.natAbs) (Nat.le_trans (fW (Nat.sub_le _ _)) (by omega))
     rw[GC aG bO] at t3
     generalize aI:bK a=se at*
     generalize a6:bK b=sf at*
     refine ao [0,1,2,3,4,5,11,25] fun F=>?_
     simp only[an]
     intro f0 f1 f2 f3 f4 f5 f11 f25
     simp[bj] at f0 f1 f2 f3 f4 f5 f11 f25
     repeat' (first
      | refine aC ?_
      | ((fail_if_success (refine aT ?_));(fail_if_success (refine aU ?_));refine aO ?_)
      | ((first|(refine aD aN ?_;simp(disch:=omega) [aI,a6,dT,sY,t0,t2,t3,f0,f1,f2,f3,f4,f5,f11,f25];(try(refine⟨by first|decide|rfl,?_⟩)))|(refine aM ?_;simp(disch:=omega) [aI,a6,dT,sY,t0,t2,t3,f0,f1,f2,f3,f4,f5,f11,f25]));(try(refine ao [0,1,2,3,4,5,11,25] ?_;intro F;simp only[an];intro U aa af al ad ae bl bo;simp(disch:=omega) [aI,a6,dT,sY,t0,t2,t3,f0,f1,f2,f3,f4,f5,f11,f25] at U aa af al ad ae bl bo;clear f0 f1 f2 f3 f4 f5 f11 f25;have f0:=U;have f1:=aa;have f2:=af;have f3:=al;have f4:=ad;have f5:=ae;have f11:=bl;have f25:=bo;clear U aa af al ad ae bl bo)))
      | (refine aL _ (by simp(disch:=omega) [aI,a6,dT,sY,t0,t2,t3,f0,f1,f2,f3,f4,f5,f11,f25];rfl) (fun I=>?_) (fun I=>?_)<;>first|(exfalso;simp(disch:=omega) [aI,a6,dT,sY,t0,t2,t3] at I;done)|(exfalso;simp at I;omega)|(simp at I))
      | ((first|refine aH ?_|refine aQ ?_);simp(disch:=omega) [aI,a6,dT,sY,t0,t2,t3,f0,f1,f2,f3,f4,f5,f11,f25]))
   · have eg:(dV a.natAbs b.natAbs<Z 0)=False:=eq_false (by simp only[dV];rw[if_neg bO];split<;>decide)
     have t2:=u4 (a:=a.natAbs) (b:=b.natAbs) (e:=false) (e':=false) (by omega) (by omega)
     rw[if_neg bO] at t2
     have t3:=mA (b:=bK a) (n:=a.natAbs - b.natAbs) (Nat.le_trans (fW (Nat.sub_le _ _)) (by omega))
     rw[GB aG bO] at t3
     generalize dV a.natAbs b.natAbs=w1 at*
     generalize aI:bK a=se at*
     generalize a6:bK b=sf at*
     refine ao [0,1,2,3,4,5,11,25] fun F=>?_
     simp only[an]
     intro f0 f1 f2 f3 f4 f5 f11 f25
     simp[bj] at f0 f1 f2 f3 f4 f5 f11 f25
     repeat' (first
      | refine aC ?_
      | ((fail_if_success (refine aT ?_));(fail_if_success (refine aU ?_));refine aO ?_)
      | ((first|(refine aD aN ?_;simp(disch:=omega) [aI,a6,dT,eg,t0,t2,t3,f0,f1,f2,f3,f4,f5,f11,f25];(try(refine⟨by first|decide|rfl,?_⟩)))|(refine aM ?_;simp(disch:=omega) [aI,a6,dT,eg,t0,t2,t3,f0,f1,f2,f3,f4,f5,f11,f25]));(try(refine ao [0,1,2,3,4,5,11,25] ?_;intro F;simp only[an];intro U aa af al ad ae bl bo;simp(disch:=omega) [aI,a6,dT,eg,t0,t2,t3,f0,f1,f2,f3,f4,f5,f11,f25] at U aa af al ad ae bl bo;clear f0 f1 f2 f3 f4 f5 f11 f25;have f0:=U;have f1:=aa;have f2:=af;have f3:=al;have f4:=ad;have f5:=ae;have f11:=bl;have f25:=bo;clear U aa af al ad ae bl bo)))
      | (refine aL _ (by simp(disch:=omega) [aI,a6,dT,eg,t0,t2,t3,f0,f1,f2,f3,f4,f5,f11,f25];rfl) (fun I=>?_) (fun I=>?_)<;>first|(exfalso;simp(disch:=omega) [aI,a6,dT,eg,t0,t2,t3] at I;done)|(exfalso;simp at I;omega)|(simp at I))
      | ((first|refine aH ?_|refine aQ ?_);simp(disch:=omega) [aI,a6,dT,eg,t0,t2,t3,f0,f1,f2,f3,f4,f5,f11,f25]))
noncomputable def Ak:FuncId->Option (List J->Option J):=dn [(119,o8),(90,sX)]
theorem Pz:∀f T,Ak f=some T->br Tryz.prog G f T:=dr (by simp only[List.forall_mem_cons];exact⟨Aj,GO,fun _ h=>absurd h (by simp)⟩)
theorem PA:Ak 119=some o8:=rfl
theorem PB:Ak 90=some sX:=rfl
attribute [local simp] PA PB
noncomputable def u7:List J->Option J:=cd (fun z:Int × Int=>cb z.1<=10000000/\cb z.2<=10000000) (fun z=>[bk z.1,bk z.2]) (fun z=>bk (z.1 - z.2))
theorem PC (z:Int × Int) (h:cb z.1<=10000000/\cb z.2<=10000000) {args:List J} (he:args.map J.loose= [bk z.1,bk z.2]):u7 args=some (bk (z.1 - z.2)):=cU (fun z w h=>by first|(simp only[List.cons.injEq,J.int.injEq,J.bool.injEq,J.sl.injEq,cl,cm,ct,cu,cp,b2,b6,cn,bY,true_and,and_true] at h;simp[h];done)|(simp only[J.agg.injEq,List.cons.injEq,J.int.injEq,J.bool.injEq,J.sl.injEq,cl,cm,ct,cu,cp,b2,b6,cn,bY,true_and,and_true] at h;simp[h])) z h he
theorem PD:br Tryz.prog G 143 u7:=by
 refine cG mixed Pz EO fun z aP=>?_
 obtain⟨a,b⟩:=z
 obtain⟨bh,aj⟩:=aP
 simp only at bh aj|-
 have t1:=Py b (by omega) (args:=[bk b]) (by simp)
 have t2:=Ai (a,-b) ⟨bh,by rw[GK];exact aj⟩ (args:=[bk a,bk (-b)]) (by simp)
 rw[<-Int.sub_eq_add_neg] at t2
 unfold i143
 generalize -b=c at*
 generalize a - b=d at*
 refine ao [0,1,2,3,4] fun F=>?_
 simp only[an]
 intro f0 f1 f2 f3 f4
 simp[bj] at f0 f1 f2 f3 f4
 repeat' (first
  | refine aC ?_
  | ((fail_if_success (refine aT ?_));(fail_if_success (refine aU ?_));refine aO ?_)
  | ((first|(refine aD aN ?_;simp(disch:=omega) [t1,t2,f0,f1,f2,f3,f4];(try(refine⟨by first|decide|rfl,?_⟩)))|(refine aM ?_;simp(disch:=omega) [t1,t2,f0,f1,f2,f3,f4]));(try(refine ao [0,1,2,3,4] ?_;intro F;simp only[an];intro U aa af al ad;simp(disch:=omega) [t1,t2,f0,f1,f2,f3,f4] at U aa af al ad;clear f0 f1 f2 f3 f4;have f0:=U;have f1:=aa;have f2:=af;have f3:=al;have f4:=ad;clear U aa af al ad)))
  | (refine aL _ (by simp(disch:=omega) [t1,t2,f0,f1,f2,f3,f4];rfl) (fun I=>?_) (fun I=>?_)<;>first|(exfalso;simp(disch:=omega) [t1,t2] at I;done)|(exfalso;simp at I;omega)|(simp at I))
  | ((first|refine aH ?_|refine aQ ?_);simp(disch:=omega) [t1,t2,f0,f1,f2,f3,f4]))
end
section
attribute [local irreducible] ck
attribute [local simp] ed ef dm wK wL wM
theorem PE {x y:Nat} (ak:x<4294967296) (bd:y<4294967296):x*y<=18446744065119617025:=Nat.mul_le_mul (show x<=4294967295 by omega) (show y<=4294967295 by omega)
theorem PF {V gx P ei B Al x r q p6 fp c R u:Nat} (ab:gx+P*ei*Al=V+P*ei*r) (ak:x=p6*fp+Al+c) (bA:x=B*q+r) (h:V+P*ei*c=R+P*(p6*u)):
 gx+P*ei*B*q=R+P*(p6*(u+ei*fp)):=by
 have aq:P*ei*x=P*ei*(p6*fp)+P*ei*Al+P*ei*c:=by rw[ak,Nat.mul_add,Nat.mul_add]
 have aB:P*ei*x=P*ei*B*q+P*ei*r:=by rw[bA,Nat.mul_add,Nat.mul_assoc (P*ei)]
 have bg:P*(p6*(u+ei*fp))=P*(p6*u)+P*ei*(p6*fp):=by
  rw[Nat.mul_add,Nat.mul_add]
  congr 1
  rw[Nat.mul_assoc P,Nat.mul_left_comm p6]
 omega
end
end
end Go.Proofs.YtemiagcencajeaaGreatDoor
