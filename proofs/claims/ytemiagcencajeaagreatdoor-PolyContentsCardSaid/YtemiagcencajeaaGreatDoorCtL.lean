/- What the claim needs of the walks, put together by a program (shake.py). -/
import Derived.Test.YtemiagcencajeaaGreatDoorCtK
set_option maxRecDepth 100000
set_option linter.unusedSimpArgs false
set_option linter.unusedVariables false
set_option linter.unusedSectionVars false
namespace Go.Proofs.YtemiagcencajeaaGreatDoor
section
set_option maxHeartbeats 8000000
open Go Go.Eng Go.RowKit
attribute [local simp] bx.m bx.o bx.n bx.g gZ eQ df c7 dj evalOp.eq_1 evalOp.eq_2 evalOp.eq_3 evalOp.eq_4 evalOp.eq_5 evalOp.eq_6 evalOp.eq_7 evalOp.eq_8 evalOp.eq_9 evalOp.eq_10 evalOp.eq_11 evalOp.eq_12 evalOp.eq_13 evalOp.eq_14 evalOp.eq_15 evalOp.eq_16 evalOp.eq_17 evalOp.eq_18 evalOp.eq_19 evalOp.eq_20 evalOp.eq_21 evalOp.eq_22 evalOp.eq_23 evalOp.eq_24 evalOp.eq_25 evalOp.eq_27 evalOp.eq_28 evalOp.eq_29 jK bf.ev c6 aF aA.new bj J.cells J.c0 J.ew J.eA hF hH hG hI hK hJ iX iY iZ gm gn cut partOf bound elems ja jb jc jd je jf jg jh ji jj jk jl g2 jm jn jo jq jr js jt ju jv jw jx jy jz jA jB jC jD jE jF jG jH jI jJ eP eJ eB fA hL g0 aA.close aA.set hr jL jM jN i' g1 gv fT fs gf hn gM gg ho hp hq fx fy fz fv hM bY hj hN hk hO hP fq hQ fr hR hS hT gd iW hU hV hW hX hY hZ h0 h1 h3 h4 h5 h6 h7 h8 h9 h_ h' ia ib hl ic ie ig ih ij ik il im iq ir iu iv iw ix iy
attribute [local simp high] iT iU iV iz iA iB iC iD iE iF iG iH iI iJ iK iL iM iN iO iP iQ iR iS
attribute [local simp] aJ List.getElem?_cons_zero List.getElem?_cons_succ eH dp fP Nat.mod_eq_of_lt jY jZ j0 j1 fU j2 j3 j4
section
attribute [local irreducible] ck
attribute [local simp] ed ef tS dm pa
abbrev lW (p:List (Bool × List Nat)):J:= .sl (p.map fun z=>k3 z) false
def oD (p:List (Bool × List Nat)):Prop:=∀z∈p,Small z.2
theorem head_eq:q2 []=some (.bool true):=rfl
noncomputable def Jw:FuncId->Option (List J->Option J):=dn [(43,x7)]
theorem Vg:∀f T,Jw f=some T->br Tryz.prog G f T:=dr (by simp only[List.forall_mem_cons];exact⟨US,fun _ h=>absurd h (by simp)⟩)
theorem Vh:Jw 43=some x7:=rfl
attribute [local simp] Vh
noncomputable def tX:List J->Option J:=cd (fun p:List (Bool × List Nat)=>oD p) (fun p=>[lW p]) (fun p=>bF (ln p 10 4) false)
theorem vA {p:List (Bool × List Nat)} (h:oD p) {args:List J} (he:args.map J.loose= [lW p]):tX args=some (bF (ln p 10 4) false):=
 cU (fun z w h=>by
  simp only[List.cons.injEq,J.sl.injEq,Ja,and_true] at h
  rw[h]) p h he
theorem Jx:br Tryz.prog G 16 tX:=by
 refine cG mixed Vg Mr fun p a4=>?_
 have t:=UO (p,10,4) ⟨a4,by simp only;omega,by simp only;omega⟩ (args:=[lW p,.int .i64 (Z 9),.int .i64 (Z 4)]) (by
  simp only[List.map_cons,List.map_nil,fs,tS,gM];rfl)
 simp only at t
 generalize ln p 10 4=a at*
 unfold i16
 refine ao [0,2] fun F=>?_
 simp only[an]
 intro f0 f2
 simp[bj] at f0 f2
 repeat' (first
  | refine aC ?_
  | ((fail_if_success (refine aT ?_));(fail_if_success (refine aU ?_));refine aO ?_)
  | ((first|(refine aD aN ?_;simp(disch:=omega) [t,f0,f2];(try(refine⟨by first|decide|rfl,?_⟩)))|(refine aM ?_;simp(disch:=omega) [t,f0,f2]));(try(refine ao [0,2] ?_;intro F;simp only[an];intro U af;simp(disch:=omega) [t,f0,f2] at U af;clear f0 f2;have f0:=U;have f2:=af;clear U af)))
  | (refine aL _ (by simp(disch:=omega) [t,f0,f2];rfl) (fun I=>?_) (fun I=>?_)<;>first|(exfalso;simp(disch:=omega) [t] at I;done)|(exfalso;simp at I;omega)|(simp at I))
  | ((first|refine aH ?_|refine aQ ?_);simp(disch:=omega) [t,f0,f2]))
structure ei (a:List Int) (n L:Nat):Prop where
 fin:en a
 len:a.length<=n
 le:cw a<=L
theorem vB {p:List (Bool × List Nat)} (h:oD p):ei (ln p 10 4) 10 4:=⟨T2 _ _ _,T3 _ _ _,T5 h _ _⟩
theorem ei.mul {a b:List Int} {n m L M:Nat} (bh:ei a n L) (aj:ei b m M) (ar:n<=1000):ei (cZ a b) (n+m) (L+M+1):=
 ⟨oC _ _,Nat.le_trans (U' _ _) (Nat.add_le_add bh.len aj.len),Nat.le_trans (U5 (Nat.le_trans bh.len (by omega))) (by have:=bh.le;have:=aj.le;omega)⟩
theorem ei.add {a b:List Int} {n L:Nat} (bh:ei a n L) (aj:ei b n L):ei (gD a b) n (L+1):=
 ⟨xM _ _,Nat.le_trans (U9 _ _) (by have:=bh.len;have:=aj.len;omega),Nat.le_trans (U6 _ _) (by have:=bh.le;have:=aj.le;omega)⟩
theorem ei.sub {a b:List Int} {n L:Nat} (bh:ei a n L) (aj:ei b n L):ei (lV a b) n (L+1):=
 ⟨Bc _ _,Nat.le_trans (U_ _ _) (by have:=bh.len;have:=aj.len;omega),Nat.le_trans (U7 _ _) (by have:=bh.le;have:=aj.le;omega)⟩
theorem pt {a b:List Int} {n m L M:Nat} (bh:ei a n L) (aj:ei b m M) (ab:n<=1000) (h2:m<=1000) (aX:L<=100000) (aW:M<=100000) (cL:min L M<48) {args:List J} (he:args.map J.loose= [bF a false,bF b false]):rR args=some (bF (cZ a b) false):=
 TT (a,b) ⟨⟨Nat.le_trans bh.len ab,Nat.le_trans aj.len h2⟩,⟨Nat.le_trans bh.le aX,Nat.le_trans aj.le aW,by have:=bh.le;have:=aj.le;simp only;omega⟩,bh.fin,aj.fin⟩ he
theorem BY {a b:List Int} {n m L M:Nat} (bh:ei a n L) (aj:ei b m M) (ab:n<=1000) (h2:m<=1000) (aX:L<=100000) (aW:M<=100000) {args:List J} (he:args.map J.loose= [bF a false,bF b false]):vw args=some (bF (gD a b) false):=
 TM (a,b) ⟨⟨Nat.le_trans bh.len ab,Nat.le_trans aj.len h2⟩,by have:=bh.le;simp only;omega,by have:=aj.le;simp only;omega⟩ he
theorem Jy {a b:List Int} {n m L M:Nat} (bh:ei a n L) (aj:ei b m M) (ab:n<=1000) (h2:m<=1000) (aX:L<=100000) (aW:M<=100000) {args:List J} (he:args.map J.loose= [bF a false,bF b false]):vx args=some (bF (lV a b) false):=
 TO (a,b) ⟨⟨Nat.le_trans bh.len ab,Nat.le_trans aj.len h2⟩,by have:=bh.le;simp only;omega,by have:=aj.le;simp only;omega⟩ he
theorem rT {a:List Int} {n L:Nat} (bh:ei a n L) (ab:n<=1000) (aX:L<=100000) {args:List J} (he:args.map J.loose= [bF a false,bF a false]):rS args=some (.bool true):=by
 rw[UX (a,a) ⟨⟨by have:=bh.len;simp only;omega,by have:=bh.len;simp only;omega⟩,by have:=bh.le;simp only;omega,by have:=bh.le;simp only;omega⟩ he]
 simp
theorem tY:(Z 0<(3:Int))=True:=eq_true (by decide)
theorem tZ:(Z 1<(3:Int))=True:=eq_true (by decide)
theorem t_:(Z 2<(3:Int))=True:=eq_true (by decide)
noncomputable def rU:FuncId->Option (List J->Option J):=dn [(14,q2),(16,tX),(51,rR),(55,vw),(66,vx),(24,rS)]
theorem Vi:∀f T,rU f=some T->br Tryz.prog G f T:=dr (by simp only[List.forall_mem_cons];exact⟨ov,Jx,I7,TN,TP,Jt,fun _ h=>absurd h (by simp)⟩)
theorem Vj:rU 14=some q2:=rfl
theorem Vk:rU 16=some tX:=rfl
theorem Vl:rU 51=some rR:=rfl
theorem Vm:rU 55=some vw:=rfl
theorem Vn:rU 66=some vx:=rfl
theorem Vo:rU 24=some rS:=rfl
attribute [local simp] Vj Vk Vl Vm Vn Vo
noncomputable def Vp:List J->Option J:=cd (fun z:List (Bool × List Nat) × List (Bool × List Nat) × List (Bool × List Nat)=>oD z.1/\oD z.2.1/\oD z.2.2) (fun z=>[.agg [lW z.1,lW z.2.1,lW z.2.2]]) (fun _=> .bool true)
theorem lx:br Tryz.prog G 8 Vp:=by
 refine cG mixed Vi qU fun z aP=>?_
 obtain⟨x,y,z⟩:=z
 obtain⟨ak,bd,aP⟩:=aP
 simp only at ak bd aP|-
 have hs:=vA ak (args:=[lW x]) (by simp)
 have ht:=vA bd (args:=[lW y]) (by simp)
 have t':=vA aP (args:=[lW z]) (by simp)
 have fD:=vB ak
 have hf:=vB bd
 have oE:=vB aP
 have jS:=head_eq
 generalize ln x 10 4=a at*
 generalize ln y 10 4=b at*
 generalize ln z 10 4=c at*
 have nC:=fD.mul hf (by decide)
 have BZ:=hf.mul oE (by decide)
 have B0:=fD.mul oE (by decide)
 have uz:=hf.add oE
 have t1:=pt fD hf (by decide) (by decide) (by decide) (by decide) (by decide) (args:=[bF a false,bF b false]) (by simp)
 have t2:=BY hf oE (by decide) (by decide) (by decide) (by decide) (args:=[bF b false,bF c false]) (by simp)
 have t3:=pt hf fD (by decide) (by decide) (by decide) (by decide) (by decide) (args:=[bF b false,bF a false]) (by simp)
 have t4:=BY oE hf (by decide) (by decide) (by decide) (by decide) (args:=[bF c false,bF b false]) (by simp)
 have t5:=Jy uz oE (by decide) (by decide) (by decide) (by decide) (args:=[bF (gD b c) false,bF c false]) (by simp)
 have t6:=pt nC oE (by decide) (by decide) (by decide) (by decide) (by decide) (args:=[bF (cZ a b) false,bF c false]) (by simp)
 have t7:=pt hf oE (by decide) (by decide) (by decide) (by decide) (by decide) (args:=[bF b false,bF c false]) (by simp)
 have t8:=pt fD BZ (by decide) (by decide) (by decide) (by decide) (by decide) (args:=[bF a false,bF (cZ b c) false]) (by simp)
 have t9:=pt fD uz (by decide) (by decide) (by decide) (by decide) (by decide) (args:=[bF a false,bF (gD b c) false]) (by simp)
 have t10:=pt fD oE (by decide) (by decide) (by decide) (by decide) (by decide) (args:=[bF a false,bF c false]) (by simp)
 have t11:=BY nC B0 (by decide) (by decide) (by decide) (by decide) (args:=[bF (cZ a b) false,bF (cZ a c) false]) (by simp)
 have t12:=Jy fD fD (by decide) (by decide) (by decide) (by decide) (args:=[bF a false,bF a false]) (by simp)
 have eV:=rT nC (by decide) (by decide) (args:=[bF (cZ a b) false,bF (cZ a b) false]) (by simp)
 have fL:=rT uz (by decide) (by decide) (args:=[bF (gD b c) false,bF (gD b c) false]) (by simp)
 have mX:=rT hf (by decide) (by decide) (args:=[bF b false,bF b false]) (by simp)
 have mY:=rT (fD.mul BZ (by decide)) (by decide) (by decide) (args:=[bF (cZ a (cZ b c)) false,bF (cZ a (cZ b c)) false]) (by simp)
 have mZ:=rT (nC.add B0) (by decide) (by decide) (args:=[bF (gD (cZ a b) (cZ a c)) false,bF (gD (cZ a b) (cZ a c)) false]) (by simp)
 rw[Va b a] at t3
 rw[Vb c b] at t4
 rw[Ve hf.fin] at t5
 rw[Vc] at t6
 rw[Vd] at t9
 rw[Vf] at t12
 clear nC BZ B0 uz fD hf oE
 generalize cZ a (cZ b c)=aq at*
 generalize gD (cZ a b) (cZ a c)=aB at*
 generalize cZ b c=bg at*
 generalize cZ a c=bT at*
 generalize cZ a b=dv at*
 generalize gD b c=e8 at*
 unfold i8
 refine ao [0,1,2,3,4,5,6,7,8,46] fun F=>?_
 simp only[an]
 intro f0 f1 f2 f3 f4 f5 f6 f7 f8 f46
 simp[bj] at f0 f1 f2 f3 f4 f5 f6 f7 f8 f46
 repeat' (first
  | refine aC ?_
  | ((fail_if_success (refine aT ?_));(fail_if_success (refine aU ?_));refine aO ?_)
  | ((first|(refine aD aN ?_;simp(disch:=omega) [tY,tZ,t_,jS,hs,ht,t',t1,t2,t3,t4,t5,t6,t7,t8,t9,t10,t11,t12,eV,fL,mX,mY,mZ,f0,f1,f2,f3,f4,f5,f6,f7,f8,f46];(try(refine⟨by first|decide|rfl,?_⟩)))|(refine aM ?_;simp(disch:=omega) [tY,tZ,t_,jS,hs,ht,t',t1,t2,t3,t4,t5,t6,t7,t8,t9,t10,t11,t12,eV,fL,mX,mY,mZ,f0,f1,f2,f3,f4,f5,f6,f7,f8,f46]));(try(refine ao [0,1,2,3,4,5,6,7,8,46] ?_;intro F;simp only[an];intro U aa af al ad ae ai au az B1;simp(disch:=omega) [tY,tZ,t_,jS,hs,ht,t',t1,t2,t3,t4,t5,t6,t7,t8,t9,t10,t11,t12,eV,fL,mX,mY,mZ,f0,f1,f2,f3,f4,f5,f6,f7,f8,f46] at U aa af al ad ae ai au az B1;clear f0 f1 f2 f3 f4 f5 f6 f7 f8 f46;have f0:=U;have f1:=aa;have f2:=af;have f3:=al;have f4:=ad;have f5:=ae;have f6:=ai;have f7:=au;have f8:=az;have f46:=B1;clear U aa af al ad ae ai au az B1)))
  | (refine aL _ (by simp(disch:=omega) [tY,tZ,t_,jS,hs,ht,t',t1,t2,t3,t4,t5,t6,t7,t8,t9,t10,t11,t12,eV,fL,mX,mY,mZ,f0,f1,f2,f3,f4,f5,f6,f7,f8,f46];rfl) (fun I=>?_) (fun I=>?_)<;>first|(exfalso;simp(disch:=omega) [tY,tZ,t_,jS,hs,ht,t',t1,t2,t3,t4,t5,t6,t7,t8,t9,t10,t11,t12,eV,fL,mX,mY,mZ] at I;done)|(exfalso;simp at I;omega)|(simp at I))
  | ((first|refine aH ?_|refine aQ ?_);simp(disch:=omega) [tY,tZ,t_,jS,hs,ht,t',t1,t2,t3,t4,t5,t6,t7,t8,t9,t10,t11,t12,eV,fL,mX,mY,mZ,f0,f1,f2,f3,f4,f5,f6,f7,f8,f46]))
abbrev fY:du:= .b' [.bool,.sl (.int .u32)]
end
end
section
set_option maxHeartbeats 8000000
open Go Go.Eng Go.RowKit Ser
attribute [local simp] bx.m bx.o bx.n bx.g gZ eQ df c7 dj evalOp.eq_1 evalOp.eq_2 evalOp.eq_3 evalOp.eq_4 evalOp.eq_5 evalOp.eq_6 evalOp.eq_7 evalOp.eq_8 evalOp.eq_9 evalOp.eq_10 evalOp.eq_11 evalOp.eq_12 evalOp.eq_13 evalOp.eq_14 evalOp.eq_15 evalOp.eq_16 evalOp.eq_17 evalOp.eq_18 evalOp.eq_19 evalOp.eq_20 evalOp.eq_21 evalOp.eq_22 evalOp.eq_23 evalOp.eq_24 evalOp.eq_25 evalOp.eq_27 evalOp.eq_28 evalOp.eq_29 jK bf.ev c6 aF aA.new bj J.cells J.c0 J.ew J.eA hF hH hG hI hK hJ iX iY iZ gm gn cut partOf bound elems ja jb jc jd je jf jg jh ji jj jk jl g2 jm jn jo jq jr js jt ju jv jw jx jy jz jA jB jC jD jE jF jG jH jI jJ eP eJ eB fA hL g0 aA.close aA.set hr jL jM jN i' g1 gv fT fs gf hn gM gg ho hp hq fx fy fz fv hM bY hj hN hk hO hP fq hQ fr hR hS hT gd iW hU hV hW hX hY hZ h0 h1 h3 h4 h5 h6 h7 h8 h9 h_ h' ia ib hl ic ie ig ih ij ik il im iq ir iu iv iw ix iy
attribute [local simp high] iT iU iV iz iA iB iC iD iE iF iG iH iI iJ iK iL iM iN iO iP iQ iR iS
attribute [local simp] aJ List.getElem?_cons_zero List.getElem?_cons_succ eH dp fP Nat.mod_eq_of_lt jY jZ j0 j1 fU j2 j3 j4
section
attribute [local irreducible] ck
attribute [local simp] ed ef tS dm pa
theorem x9 {a:List Int} {n L:Nat} (bh:ei a n L) (ab:n<=1000) (aX:L<=1000000) {args:List J} (he:args.map J.loose= [bF a false]):rP args=some (aw (cx a)):=
 I0 a ⟨Nat.le_trans bh.len ab,Nat.le_trans bh.le aX⟩ he
theorem B2 {a:List Int} {n L:Nat} (bh:ei a n L) (ab:n<=1000) (aX:L<=400000) {args:List J} (he:args.map J.loose= [bF a false]):vv args=some (bF (dF a) false):=
 TI a ⟨Nat.le_trans bh.len ab,Nat.le_trans bh.le aX,bh.fin⟩ he
theorem ei.B3 {a:List Int} {n L:Nat} (bh:ei a n L):ei (dF a) n L:=⟨IF bh.fin,by rw[Bf];exact bh.len,Nat.le_trans (U8 a) bh.le⟩
theorem B4 {a:Nat} (h:(ah a).length<=1000000) {args:List J} (he:args.map J.loose= [aw a,aw a]):vz args=some (.bool true):=by
 rw[U1 (a,a) ⟨h,h⟩ he];simp
theorem ei.cont {a:List Int} {n L:Nat} (bh:ei a n L):(ah (cx a)).length<=L:=Nat.le_trans (xW a) bh.le
theorem Vq {a:List Int} (h:en a) (aJ:a≠ []):bK (fk a)=bK (lead a):=by
 have:=z8 (bK (lead a)) (cx a)
 rw[I2] at this
 rw[this,decide_eq_true (Nat.ne_of_gt (xP h aJ)),Bool.and_true]
theorem Vr {a:List Int} (h:en a):qj (dF a) (fk a)=a:=nq (SW _ _) h (by rw[SV,nX])
noncomputable def nY:FuncId->Option (List J->Option J):=dn [(14,q2),(16,tX),(28,rP),(51,rR),(52,qc),(27,vz),(30,vv),(32,xV),(24,rS),(53,tI)]
theorem Vs:∀f T,nY f=some T->br Tryz.prog G f T:=dr (by simp only[List.forall_mem_cons];exact⟨ov,Jx,I1,I7,AQ,U2,TJ,Tw,Jt,IS,fun _ h=>absurd h (by simp)⟩)
theorem Vt:nY 14=some q2:=rfl
theorem Vu:nY 16=some tX:=rfl
theorem Vv:nY 28=some rP:=rfl
theorem Vw:nY 51=some rR:=rfl
theorem Vx:nY 52=some qc:=rfl
theorem Vy:nY 27=some vz:=rfl
theorem Vz:nY 30=some vv:=rfl
theorem VA:nY 32=some xV:=rfl
theorem VB:nY 24=some rS:=rfl
theorem VC:nY 53=some tI:=rfl
attribute [local simp] Vt Vu Vv Vw Vx Vy Vz VA VB VC
noncomputable def B5:List J->Option J:=cd (fun z:List (Bool × List Nat) × List (Bool × List Nat)=>oD z.1/\oD z.2) (fun z=>[lW z.1,lW z.2]) (fun _=> .bool true)
theorem VD {x y:List (Bool × List Nat)} (ak:oD x) (bd:oD y) {args:List J} (he:args.map J.loose= [lW x,lW y]):B5 args=some (.bool true):=
 cU (fun _ _ _=>rfl) (x,y) ⟨ak,bd⟩ he
theorem gL:br Tryz.prog G 5 B5:=by
 refine cG mixed Vs Mp fun z aP=>?_
 obtain⟨x,y⟩:=z
 obtain⟨ak,bd⟩:=aP
 simp only at ak bd|-
 have hs:=vA ak (args:=[lW x]) (by simp)
 have ht:=vA bd (args:=[lW y]) (by simp)
 have fD:=vB ak
 have hf:=vB bd
 have jS:=head_eq
 generalize ln x 10 4=a at*
 generalize ln y 10 4=b at*
 have nC:=fD.mul hf (by decide)
 have t1:=x9 fD (by decide) (by decide) (args:=[bF a false]) (by simp)
 have t2:=x9 hf (by decide) (by decide) (args:=[bF b false]) (by simp)
 have t3:=pt fD hf (by decide) (by decide) (by decide) (by decide) (by decide) (args:=[bF a false,bF b false]) (by simp)
 have t4:=x9 nC (by decide) (by decide) (args:=[bF (cZ a b) false]) (by simp)
 rw[IK fD.fin hf.fin] at t4
 have o5:=fD.cont
 have o6:=hf.cont
 have VE:=kP (cx a) (cx b)
 have t5:=AP ((cx a:Int),(cx b:Int)) ⟨by simp only[Az];omega,by simp only[Az];omega,by simp only[Az];omega⟩ (args:=[.agg [.bool false,aw (cx a)],.agg [.bool false,aw (cx b)]]) (by
  simp only[List.map_cons,List.map_nil,gf,fT,gv,gg,ed,fs,bk,aw,cF,FF,Int.natAbs_natCast])
 simp only[<-Int.natCast_mul,FF,Int.natAbs_natCast] at t5
 have eV:=B4 (a:=cx a*cx b) (by omega) (args:=[aw (cx a*cx b),aw (cx a*cx b)]) (by simp)
 unfold i5
 have t6:=B2 fD (by decide) (by decide) (args:=[bF a false]) (by simp)
 by_cases ar:a= []
 · have cK:ah (cx a)= []:=by rw[ar,vr];exact fu
   have ua:(ah (cx a)).length=0:=by rw[cK];rfl
   clear cK
   have aq:dF a= []:=by rw[ar];rfl
   have W':(List.map (fun z=>bk z) a)= []:=by rw[ar];rfl
   have el:a.length=0:=by rw[ar];rfl
   rw[aq] at t6
   simp only[bF,List.map_nil] at t6
   generalize cZ a b=p at*
   generalize cx a*cx b=mq at*
   have m0:(Z mq).natAbs=mq:=Int.natAbs_natCast mq
   generalize cx a=c at*
   generalize cx b=d at*
   refine ao [0,1,4,5,6,7,8,9,10,11,33,36,72] fun F=>?_
   simp only[an]
   intro f0 f1 f4 f5 f6 f7 f8 f9 f10 f11 f33 f36 f72
   simp[bj] at f0 f1 f4 f5 f6 f7 f8 f9 f10 f11 f33 f36 f72
   repeat' (first
    | refine aC ?_
    | ((fail_if_success (refine aT ?_));(fail_if_success (refine aU ?_));refine aO ?_)
    | ((first|(refine aD aN ?_;simp(disch:=omega) [jS,hs,ht,t1,t2,t3,t4,t5,eV,t6,el,ua,m0,f0,f1,f4,f5,f6,f7,f8,f9,f10,f11,f33,f36,f72];(try(refine⟨by first|decide|rfl,?_⟩)))|(refine aM ?_;simp(disch:=omega) [jS,hs,ht,t1,t2,t3,t4,t5,eV,t6,el,ua,m0,f0,f1,f4,f5,f6,f7,f8,f9,f10,f11,f33,f36,f72]));(try(refine ao [0,1,4,5,6,7,8,9,10,11,33,36,72] ?_;intro F;simp only[an];intro U aa ad ae ai au az a2 a5 bl d' rV rW;simp(disch:=omega) [jS,hs,ht,t1,t2,t3,t4,t5,eV,t6,el,ua,m0,f0,f1,f4,f5,f6,f7,f8,f9,f10,f11,f33,f36,f72] at U aa ad ae ai au az a2 a5 bl d' rV rW;clear f0 f1 f4 f5 f6 f7 f8 f9 f10 f11 f33 f36 f72;have f0:=U;have f1:=aa;have f4:=ad;have f5:=ae;have f6:=ai;have f7:=au;have f8:=az;have f9:=a2;have f10:=a5;have f11:=bl;have f33:=d';have f36:=rV;have f72:=rW;clear U aa ad ae ai au az a2 a5 bl d' rV rW)))
    | (refine aL _ (by simp(disch:=omega) [jS,hs,ht,t1,t2,t3,t4,t5,eV,t6,el,ua,m0,f0,f1,f4,f5,f6,f7,f8,f9,f10,f11,f33,f36,f72];rfl) (fun I=>?_) (fun I=>?_)<;>first|(exfalso;simp(disch:=omega) [jS,hs,ht,t1,t2,t3,t4,t5,eV,t6,el,ua,m0] at I;done)|(exfalso;simp at I;omega)|(simp at I))
    | ((first|refine aH ?_|refine aQ ?_);simp(disch:=omega) [jS,hs,ht,t1,t2,t3,t4,t5,eV,t6,el,ua,m0,f0,f1,f4,f5,f6,f7,f8,f9,f10,f11,f33,f36,f72]))
 · have a4:=List.length_pos_iff.2 ar
   have el:¬a.length=0:=by omega
   have qb:(a.length == 0)=false:=by simpa using el
   have rX:=fD.B3
   have fQ:=Bf a
   have VF:=S5 fD.fin ar
   have t7:=x9 rX (by decide) (by decide) (args:=[bF (dF a) false]) (by simp)
   rw[Bh fD.fin ar] at t7
   have fL:=B4 (a:=1) (by rw[nL];decide) (args:=[aw 1,.sl [.int .u32 (Z 1)] true]) (by rw[Ii];simp)
   have t8:=Tv (dF a,fk a) ⟨by have:=rX.len;simp only;omega,by have:=rX.le;simp only;omega,by have:=I3 a;have:=fD.le;simp only;omega,by have:=rX.le;simp only;omega⟩ (args:=[bF (dF a) false,.agg [.bool (bK (lead a)),aw (cx a)]]) (by
    simp only[List.map_cons,List.map_nil,fs,ef,gf,fT,gv,gg,ed,fs,bF,bk,aw,cF,Vq fD.fin ar,vt])
   simp only[Vr fD.fin] at t8
   have mX:=rT fD (by decide) (by decide) (args:=[bF a false,bF a false]) (by simp)
   have t9:=B2 nC (by decide) (by decide) (args:=[bF (cZ a b) false]) (by simp)
   rw[Tb fD.fin hf.fin] at t9
   have t10:=B2 hf (by decide) (by decide) (args:=[bF b false]) (by simp)
   have t11:=pt rX hf.B3 (by decide) (by decide) (by decide) (by decide) (by decide) (args:=[bF (dF a) false,bF (dF b) false]) (by simp)
   have mY:=rT (rX.mul hf.B3 (by decide)) (by decide) (by decide) (args:=[bF (cZ (dF a) (dF b)) false,bF (cZ (dF a) (dF b)) false]) (by simp)
   have kF:=pn (show 0<a.length by omega)
   have cW:=jR a 0
   have si:=fD.le
   have t12:=IQ (cx a,(a.getD 0 0).natAbs) ⟨by simp only;omega,by simp only[cb] at cW;simp only;omega⟩ (args:=[aw (cx a),aw (a.getD 0 0).natAbs]) (by simp)
   simp only[Nat.gcd_eq_left (Int.ofNat_dvd_left.1 (tE a 0))] at t12
   have mZ:=B4 (a:=cx a) (by omega) (args:=[aw (cx a),aw (cx a)]) (by simp)
   have l9:=pn (show a.length - 1<a.length by omega)
   rw[show a.getD (a.length - 1) 0=lead a from rfl] at l9
   have kb:=pn (show (dF a).length - 1<(dF a).length by omega)
   rw[show (dF a).getD ((dF a).length - 1) 0=lead (dF a) from rfl,fQ] at kb
   have ub:bK (lead (dF a))=false:=Nz.2 (by omega)
   have b4:IntKind.i64.wrap (Z a.length - Z 1)=Z (a.length - 1):=dp (by omega) (by have:=fD.len;omega)
   clear nC rX fD hf o5 o6 VE cW si VF
   generalize cZ (dF a) (dF b)=aq at*
   generalize dF b=aB at*
   generalize lead (dF a)=Xa at*
   generalize dF a=q at*
   generalize cZ a b=p at*
   generalize cx a*cx b=mq at*
   have m0:(Z mq).natAbs=mq:=Int.natAbs_natCast mq
   generalize cx a=c at*
   generalize cx b=d at*
   generalize lead a=cE at*
   generalize a.getD 0 0=a0 at*
   refine ao [0,1,4,5,6,7,8,9,10,11,33,36,72] fun F=>?_
   simp only[an]
   intro f0 f1 f4 f5 f6 f7 f8 f9 f10 f11 f33 f36 f72
   simp[bj] at f0 f1 f4 f5 f6 f7 f8 f9 f10 f11 f33 f36 f72
   repeat' (first
    | refine aC ?_
    | ((fail_if_success (refine aT ?_));(fail_if_success (refine aU ?_));refine aO ?_)
    | ((first|(refine aD aN ?_;simp(disch:=omega) [jS,hs,ht,t1,t2,t3,t4,t5,eV,t6,el,qb,ar,fQ,b4,l9,kb,ub,t7,fL,t8,mX,t9,t10,t11,mY,kF,t12,mZ,m0,f0,f1,f4,f5,f6,f7,f8,f9,f10,f11,f33,f36,f72];(try(refine⟨by first|decide|rfl,?_⟩)))|(refine aM ?_;simp(disch:=omega) [jS,hs,ht,t1,t2,t3,t4,t5,eV,t6,el,qb,ar,fQ,b4,l9,kb,ub,t7,fL,t8,mX,t9,t10,t11,mY,kF,t12,mZ,m0,f0,f1,f4,f5,f6,f7,f8,f9,f10,f11,f33,f36,f72]));(try(refine ao [0,1,4,5,6,7,8,9,10,11,33,36,72] ?_;intro F;simp only[an];intro U aa ad ae ai au az a2 a5 bl d' rV rW;simp(disch:=omega) [jS,hs,ht,t1,t2,t3,t4,t5,eV,t6,el,qb,ar,fQ,b4,l9,kb,ub,t7,fL,t8,mX,t9,t10,t11,mY,kF,t12,mZ,m0,f0,f1,f4,f5,f6,f7,f8,f9,f10,f11,f33,f36,f72] at U aa ad ae ai au az a2 a5 bl d' rV rW;clear f0 f1 f4 f5 f6 f7 f8 f9 f10 f11 f33 f36 f72;have f0:=U;have f1:=aa;have f4:=ad;have f5:=ae;have f6:=ai;have f7:=au;have f8:=az;have f9:=a2;have f10:=a5;have f11:=bl;have f33:=d';have f36:=rV;have f72:=rW;clear U aa ad ae ai au az a2 a5 bl d' rV rW)))
    | (refine aL _ (by simp(disch:=omega) [jS,hs,ht,t1,t2,t3,t4,t5,eV,t6,el,qb,ar,fQ,b4,l9,kb,ub,t7,fL,t8,mX,t9,t10,t11,mY,kF,t12,mZ,m0,f0,f1,f4,f5,f6,f7,f8,f9,f10,f11,f33,f36,f72];rfl) (fun I=>?_) (fun I=>?_)<;>first|(exfalso;simp(disch:=omega) [jS,hs,ht,t1,t2,t3,t4,t5,eV,t6,el,qb,ar,fQ,b4,l9,kb,ub,t7,fL,t8,mX,t9,t10,t11,mY,kF,t12,mZ,m0] at I;done)|(exfalso;simp at I;omega)|(simp at I))
    | ((first|refine aH ?_|refine aQ ?_);simp(disch:=omega) [jS,hs,ht,t1,t2,t3,t4,t5,eV,t6,el,qb,ar,fQ,b4,l9,kb,ub,t7,fL,t8,mX,t9,t10,t11,mY,kF,t12,mZ,m0,f0,f1,f4,f5,f6,f7,f8,f9,f10,f11,f33,f36,f72]))
end
end
end Go.Proofs.YtemiagcencajeaaGreatDoor
