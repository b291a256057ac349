/- What the claim needs of the walks, put together by a program (shake.py). -/
import Derived.Test.YtemiagcencajeaaGreatDoorCqE
set_option maxRecDepth 100000
set_option linter.unusedSimpArgs false
set_option linter.unusedVariables false
set_option linter.unusedSectionVars false
namespace Go.Proofs.YtemiagcencajeaaGreatDoor
section
set_option maxHeartbeats 8000000
open Go Go.Eng Go.RowKit
theorem Vt {m o o' P B y r x a1 z:Nat} (hm:o'+P*y=o+P*(z/m)) (a2:y=0) (h:m*o+P*B*r=P*B*a1) (ay:z=r*B+x):m*o'+P*(z%m)=P*(x+B*a1):=by
 subst a2
 have e:P*(m*(z/m)+z%m)=P*z:=by rw[Nat.div_add_mod]
 rw[ay] at e|-
 rw[ay] at hm
 generalize (r*B+x)/m=q at*
 generalize (r*B+x)%m=t at*
 grind
end
section
set_option maxHeartbeats 8000000
open Go Go.Eng Go.RowKit
attribute [local simp] a_.m a_.o a_.n a_.g e6 ez c2 cE c4 evalOp.eq_1 evalOp.eq_2 evalOp.eq_3 evalOp.eq_4 evalOp.eq_5 evalOp.eq_6 evalOp.eq_7 evalOp.eq_8 evalOp.eq_9 evalOp.eq_10 evalOp.eq_11 evalOp.eq_12 evalOp.eq_13 evalOp.eq_14 evalOp.eq_15 evalOp.eq_16 evalOp.eq_17 evalOp.eq_18 evalOp.eq_19 evalOp.eq_20 evalOp.eq_21 evalOp.eq_22 evalOp.eq_23 evalOp.eq_24 evalOp.eq_25 evalOp.eq_27 evalOp.eq_28 evalOp.eq_29 ie a6.ev cD aw af.new dW J.cells J.ch J.dO J.dJ gk gm gl gn gq gp hA hB hC ft fu cut partOf bound elems hE hF hG hH hI hJ hK hL hM hN hO hP fJ hQ hR hS hT hU hV hW hX hY hZ h0 h1 h3 h4 h5 h6 h7 h8 h9 h_ ia ib ic ey eh d_ e1 gr fS af.close af.set fU ig ih ij hD fT fR fy ee fH ga fh fI gb gd gf eY eZ e0 eW gu bP f_ gv f' gw gx eQ gy eR gz gA gB fl hz gC gD gE gF gG gH gI gJ gK gL gM gN gO gP gQ gR gS gT gU fx gV gW gX gY gZ g0 g1 g2 g3 g4 g5 g6 g7 g8 g9
attribute [local simp high] hv hx hy g_ g' ha hb hc hd hf hg hh hi hj hk hl hn ho hp hq hr hs ht
attribute [local simp] aQ List.getElem?_cons_zero List.getElem?_cons_succ dC cA fg Nat.mod_eq_of_lt iE iF iG iH fm iI iJ iK
section
attribute [local irreducible] br
attribute [local simp] di db cB
noncomputable def zj:FuncId->Option (List J->Option J):=cT [(170,kH),(185,oT),(257,k1)]
theorem Ll:∀f T,zj f=some T->a3 Tryz.prog G f T:=cX (by simp only[List.forall_mem_cons];exact ⟨pQ,y2,DF,fun _ h=>absurd h (by simp)⟩)
theorem Vu:zj 170=some kH:=rfl
theorem Vv:zj 185=some oT:=rfl
theorem Vw:zj 257=some k1:=rfl
attribute [local simp] Vu Vv Vw
def Lm (a L m:Nat) (s:aW):Prop:=∃q o r,o.length=L/\Small o/\(∀j,j<m->aP o j=0)/\r<3/\3*val o+ah m*r=ah m*(a/ah m)/\s.F 3= .ref q 0 L L/\s.F 4=fo r/\fq s.h q o
theorem Vx {o o' P B y v q r c d:Nat} (aF:o'+P*y=o+P*v) (a2:y=0) (h:3*o+P*B*c=P*B*q) (bk:c*B+d=3*v+r):3*o'+P*r=P*(d+B*q):=by
 subst a2
 have e:P*(c*B+d)=P*(3*v+r):=by rw[bk]
 grind
theorem Ln {r x:Nat} (ae:x<4294967296):r*4294967296|||x=r*4294967296+x:=by
 have e:(4294967296:Nat)=2^32:=by decide
 rw[e] at ae|-
 rw[Nat.mul_comm,Nat.two_pow_add_eq_or_of_lt ae]
theorem Vy {a o m r x:Nat} (aU:r<3) (ae:x<4294967296) (ja:x=a/ah m%4294967296) (aF:3*o+ah (m+1)*r=ah (m+1)*(a/ah (m+1))):
 ∃R,r*4294967296=R/\R|||x=R+x/\R+x<18446744073709551616/\(R+x)/3<4294967296/\(R+x)/3<18446744073709551616/\
  ∀o',o'+ah m*0=o+ah m*((R+x)/3)->3*o'+ah m*((R+x)%3)=ah m*(a/ah m):=by
 refine⟨r*4294967296,rfl,Ln ae,by omega,by omega,by omega,fun o' aL=>?_⟩
 · rw[et] at aF
   have:=Vx aL rfl aF (show r*4294967296+x=3*((r*4294967296+x)/3)+(r*4294967296+x)%3 by omega)
   rw[this,ja,<-et,q2,Nat.mod_add_div]
theorem re:(Z 0<=(-1:Int))=False:=eq_false (by decide)
theorem DI:(Z 0<(3:Int))=True:=eq_true (by decide)
theorem DJ:(Z 1<(3:Int))=True:=eq_true (by decide)
theorem DK:(Z 2<(3:Int))=True:=eq_true (by decide)
noncomputable def sU:List J->Option J:=bu (fun z:Nat=>(ad z).length<=100000000/\z%3=0) (fun z=>[ai z]) (fun z=>ai (z/3))
theorem Vz (z:Nat) (h:(ad z).length<=100000000/\z%3=0) {args:List J} (he:args.map J.loose= [ai z]):sU args=some (ai (z/3)):=bM (fun z w h=>by simp only[List.cons.injEq,J.int.injEq,J.bool.injEq,J.sl.injEq,cI,cH,cU,cV,cP,bY,cf,cO,bP,true_and,and_true] at h;simp[h]) z h he
theorem VA:a3 Tryz.prog G 258 sU:=by
 refine bK mixed Ll JG fun a ay=>?_
 obtain⟨bQ,aN⟩:=ay
 have aV:=dZ a
 obtain⟨L,bq⟩:∃L,L=(ad a).length:=⟨_,rfl⟩
 have bg:a<ah L:=cN.1 (by omega)
 have a8:Z L*4<=140737488355328:=by simp only[Z];omega
 have sO:IntKind.i64.wrap (Z L - Z 1)=eJ L:=kG (by omega)
 unfold i258
 refine aX [0,2,3,4,5,13] fun F K=>?_
 obtain⟨f0,f2,f3,f4,f5,f13⟩:=K
 have H:=b7 bq.symm a8 sO (@zg)
 have K:=en f0 f2 f3 f4 f5 f13;clear f0 f2 f3 f4 f5 f13
 repeat' (first|refine ak ?_|refine al ?_|((first|refine aI ?_|refine aJ ?_|refine aK ?_|exact ao|refine an ?_);try(refine ar [0,2,3,4,5,13] fun F k=>?_;replace K:=k;clear k))|(refine aq (fun I=>?_) (fun I=>?_)<;>first|(exfalso;simp(disch:=omega) [H] at I;done)|(exfalso;simp at I;omega)|simp at I)|exact aB|refine aA ?_|exact aD|refine aC ?_|exact trivial)
 all_goals obtain⟨f0,f2,f3,f4,f5,f13⟩:=K
 refine mZ (fun m s=>m<=L/\Lm a L m s/\s.F 5= .int .i64 (eJ m)) (Lm a L 0) (fun _=>False) L ?_ ?_ ?_ (fun _ _ h=>h.elim)
 · refine⟨Nat.le_refl _,⟨_,List.replicate L 0,0,by simp,pO _,fun j _=>wy _ _,by decide,by simp[sy,Nat.div_eq_of_lt bg],f3,f4,⟨by simp[aw],by simp,by simp⟩⟩,f5⟩
 · rintro m s ag ⟨hm,⟨q,o,r,iV,fB,ay,aU,aF,fG,kb,V⟩,fa⟩
   replace f0:=(ag 0 rfl).trans f0
   clear f3 f4 f5
   have f3:=fG
   have f4:=kb
   have f5:=fa
   have K:=b7 f0 f3 f4 f5;clear f0 f3 f4 f5
   refine bU [0,3,4,5,13] fun F k=>?_;clear K
   obtain⟨f0,f3,f4,f5,f13⟩:=k
   cases m with
   | zero=>
     rw[nY] at f5
     have H:=(@re)
     have K:=bH f0 f3 f4 f5 f13;clear f0 f3 f4 f5 f13
     repeat' (first|refine ak ?_|refine al ?_|((first|refine aI ?_|refine aJ ?_|refine aK ?_|exact ao|refine an ?_);try(refine ar [0,3,4,5,13] fun F k=>?_;replace K:=k;clear k))|(refine aq (fun I=>?_) (fun I=>?_)<;>first|(exfalso;simp(disch:=omega) [H] at I;done)|(exfalso;simp at I;omega)|simp at I)|exact aB|refine aA ?_|exact aD|refine aC ?_|exact trivial)
     all_goals obtain⟨f0,f3,f4,f5,f13⟩:=K
     exact ⟨q,o,r,iV,fB,ay,aU,aF,f3,f4,V.bump _ _ (by omega)⟩
   | succ m=>
     rw[nZ] at f5
     have ae:=aV.aP m
     have m8:=(kp (show m<(ad a).length by omega)).symm
     have uB:=iy a m
     have go:=kf (show m<o.length by omega)
     have sz:=kI (show 0<o.length by omega)
     generalize ja:aP (ad a) m=x at*
     obtain⟨R,sl,jT,Dm,wz,VB,lO⟩:=Vy aU ae uB aF
     have st:=oW o m ((R+x)/3)
     have dT:=V.cells
     have fp:=V.b9
     have sO:IntKind.i64.wrap (Z m - Z 1)=eJ m:=kG (by omega)
     have C0:m<L:=by omega
     clear aF uB
     have H:=wo dT fp m8 go ja sl jT Dm VB wz sz st sO C0 bq.symm
     have K:=bH f0 f3 f4 f5 f13;clear f0 f3 f4 f5 f13
     repeat' (first|refine ak ?_|refine al ?_|((first|refine aI ?_|refine aJ ?_|refine aK ?_|exact ao|refine an ?_);try(refine ar [0,3,4,5,13] fun F k=>?_;replace K:=k;clear k))|(refine aq (fun I=>?_) (fun I=>?_)<;>first|(exfalso;simp(disch:=omega) [H] at I;done)|(exfalso;simp at I;omega)|simp at I)|exact aB|refine aA ?_|exact aD|refine aC ?_|exact trivial)
     all_goals obtain⟨f0,f3,f4,f5,f13⟩:=K
     have iz:=m3 ((R+x)/3) (show m<o.length by omega)
     rw[ay m (by omega)] at iz
     refine⟨m,Nat.lt_succ_self m,by omega,⟨q,o.set m ((R+x)/3),(R+x)%3,by rw[List.length_set];exact iV,m4 fB wz,fun j aO=>?_,by omega,lO _ iz,f3,f4,V.put _ _ _ (by omega)⟩,rfl⟩
     · rw[ns _ _ (by omega),if_neg (by omega)]
       exact ay j (by omega)
 · rintro s ag ⟨q,o,r,iV,fB,ay,aU,aF,fG,kb,V⟩
   rw[fA,Nat.div_one] at aF
   have lH:val o=a/3:=by omega
   clear f3 f4 f5
   have f3:=fG
   have dT:=V.cells
   have cZ:=oR (e:=false) fB (show o.length<=1073741824 by omega)
   rw[lH] at cZ
   have iW:=zi (show o.length<=L by omega)
   have nO:=zh o
   have aG:=pW o
   have hle:L<=(bm o).length:=by omega
   have K:=f3;clear f3
   refine bU [2,3] fun F k=>?_;clear K
   obtain⟨f2,f3⟩:=k
   rw[show (o.map fun n=>J.int .u32 (Z n))=bm o from rfl] at cZ
   have H:=bH dT cZ iW nO hle
   have K:=bN f2 f3;clear f2 f3
   repeat' (first|refine ak ?_|refine al ?_|((first|refine aI ?_|refine aJ ?_|refine aK ?_|exact ao|refine an ?_);try(refine ar [2,3] fun F k=>?_;replace K:=k;clear k))|(refine aq (fun I=>?_) (fun I=>?_)<;>first|(exfalso;simp(disch:=omega) [H] at I;done)|(exfalso;simp at I;omega)|simp at I)|exact aB|refine aA ?_|exact aD|refine aC ?_|exact trivial)
   all_goals obtain⟨f2,f3⟩:=K
noncomputable def zk:List J->Option J:=bu (fun z:Nat × Nat=>(ad z.1).length<=1000000000/\(ad z.2).length<=1000000000) (fun z=>[ai z.1,ai z.2]) (fun z=> .bD [ai (if z.1<z.2 then z.2 - z.1 else z.1 - z.2),.bool (decide (z.1<z.2))])
theorem VC (z:Nat × Nat) (h:(ad z.1).length<=1000000000/\(ad z.2).length<=1000000000) {args:List J} (he:args.map J.loose= [ai z.1,ai z.2]):zk args=some (.bD [ai (if z.1<z.2 then z.2 - z.1 else z.1 - z.2),.bool (decide (z.1<z.2))]):=bM (fun z w h=>by simp only[List.cons.injEq,J.int.injEq,J.bool.injEq,J.sl.injEq,cI,cH,cU,cV,cP,bY,cf,cO,bP,true_and,and_true] at h;simp[h]) z h he
theorem VD:a3 Tryz.prog G 280 zk:=by
 refine bK mixed Ll JP fun z ay=>?_
 obtain⟨a,b⟩:=z
 obtain⟨bQ,bm⟩:=ay
 simp only at bQ bm|-
 have t:=wJ (a:=a) (b:=b) (e:=false) (e':=false) bQ bm
 unfold i280
 by_cases h:a<b
 · rw[if_pos h] at t
   have t2:=DE (b,a) ⟨bm,bQ⟩ (args:=[ai b,ai a]) (by simp)
   simp only at t2
   rw[if_pos h,decide_eq_true h]
   generalize b - a=c at*
   refine aX [0,1,4,5,6,7,14] fun F K=>?_
   obtain⟨f0,f1,f4,f5,f6,f7,f14⟩:=K
   have H:=bN t t2
   have K:=dN f0 f1 f4 f5 f6 f7 f14;clear f0 f1 f4 f5 f6 f7 f14
   repeat' (first|refine ak ?_|refine al ?_|((first|refine aI ?_|refine aJ ?_|refine aK ?_|exact ao|refine an ?_);try(refine ar [0,1,4,5,6,7,14] fun F k=>?_;replace K:=k;clear k))|(refine aq (fun I=>?_) (fun I=>?_)<;>first|(exfalso;simp(disch:=omega) [H] at I;done)|(exfalso;simp at I;omega)|simp at I)|exact aB|refine aA ?_|exact aD|refine aC ?_|exact trivial)
   all_goals obtain⟨f0,f1,f4,f5,f6,f7,f14⟩:=K
 · rw[if_neg h] at t
   rw[if_neg h,decide_eq_false h]
   generalize a - b=c at*
   refine aX [0,1,4,5,6,7,14] fun F K=>?_
   obtain⟨f0,f1,f4,f5,f6,f7,f14⟩:=K
   have H:=t
   have K:=dN f0 f1 f4 f5 f6 f7 f14;clear f0 f1 f4 f5 f6 f7 f14
   repeat' (first|refine ak ?_|refine al ?_|((first|refine aI ?_|refine aJ ?_|refine aK ?_|exact ao|refine an ?_);try(refine ar [0,1,4,5,6,7,14] fun F k=>?_;replace K:=k;clear k))|(refine aq (fun I=>?_) (fun I=>?_)<;>first|(exfalso;simp(disch:=omega) [H] at I;done)|(exfalso;simp at I;omega)|simp at I)|exact aB|refine aA ?_|exact aD|refine aC ?_|exact trivial)
   all_goals obtain⟨f0,f1,f4,f5,f6,f7,f14⟩:=K
noncomputable def zl:FuncId->Option (List J->Option J):=cT [(174,jP),(172,lP),(280,zk)]
theorem VE:∀f T,zl f=some T->a3 Tryz.prog G f T:=cX (by simp only[List.forall_mem_cons];exact ⟨uv,y4,VD,fun _ h=>absurd h (by simp)⟩)
theorem VF:zl 174=some jP:=rfl
theorem VG:zl 172=some lP:=rfl
theorem VH:zl 280=some zk:=rfl
attribute [local simp] VF VG VH
def mg (a b c:Nat):Nat:=if a+c<b then b -(a+c) else a+c - b
noncomputable def uJ:List J->Option J:=bu (fun z:Nat × Nat × Nat=>(ad z.1).length<=10000000/\(ad z.2.1).length<=10000000/\(ad z.2.2).length<=10000000) (fun z=>[.agg [ai z.1,ai z.2.1,ai z.2.2]]) (fun z=> .bD [ai (z.1+z.2.2+z.2.1),ai (mg z.1 z.2.1 z.2.2),ai (z.1+(z.2.1*2^1+z.2.2*2^2)),.bool (decide (z.1+z.2.2<z.2.1))])
theorem Lo (z:Nat × Nat × Nat) (h:(ad z.1).length<=10000000/\(ad z.2.1).length<=10000000/\(ad z.2.2).length<=10000000) {args:List J} (he:args.map J.loose= [.agg [ai z.1,ai z.2.1,ai z.2.2]]):uJ args=some (.bD [ai (z.1+z.2.2+z.2.1),ai (mg z.1 z.2.1 z.2.2),ai (z.1+(z.2.1*2^1+z.2.2*2^2)),.bool (decide (z.1+z.2.2<z.2.1))]):=bM (fun z w h=>by simp only[J.agg.injEq,List.cons.injEq,J.int.injEq,J.bool.injEq,J.sl.injEq,cI,cH,cU,cV,cP,bY,cf,cO,bP,true_and,and_true] at h;simp[h]) z h he
theorem VI:a3 Tryz.prog G 256 uJ:=by
 refine bK mixed VE JE fun z ay=>?_
 obtain⟨a,b,c⟩:=z
 obtain⟨bQ,bm,lc⟩:=ay
 simp only at bQ bm lc|-
 have aem:=kq a c
 have t1:=m5 (a:=a) (b:=c) (e:=false) (e':=false) (by omega) (by omega)
 have t2:=m5 (a:=a+c) (b:=b) (e:=false) (e':=false) (by omega) (by omega)
 have t3:=VC (a+c,b) ⟨by simp only;omega,by simp only;omega⟩ (args:=[ai (a+c),ai b]) (by simp)
 have t4:=sL (a:=b) (n:=1) (e:=false) (by omega) (by omega)
 have t5:=sL (a:=c) (n:=2) (e:=false) (by omega) (by omega)
 have n7:=kY b (2^1)
 have aen:=kY c (2^2)
 have my:(ad (2^1)).length<=1:=cN.2 (by rw[q1];decide)
 have kB:(ad (2^2)).length<=1:=cN.2 (by rw[q1];decide)
 have aeo:=kq (b*2^1) (c*2^2)
 have t6:=m5 (a:=b*2^1) (b:=c*2^2) (e:=false) (e':=false) (by omega) (by omega)
 have t7:=m5 (a:=a) (b:=b*2^1+c*2^2) (e:=false) (e':=false) (by omega) (by omega)
 simp only at t3
 rw[show (if a+c<b then b -(a+c) else a+c - b)=mg a b c from rfl] at t3
 generalize decide (a+c<b)=neg at*
 generalize mg a b c=aep at*
 generalize a+(b*2^1+c*2^2)=cn at*
 generalize b*2^1+c*2^2=cd at*
 generalize b*2^1=dc at*
 generalize c*2^2=c7 at*
 generalize a+c+b=v3 at*
 generalize a+c=v5 at*
 unfold i256
 refine aX [0,1,2,3,4,5,6] fun F K=>?_
 obtain⟨f0,f1,f2,f3,f4,f5,f6⟩:=K
 have H:=iT (@DI) (@DJ) (@DK) t1 t2 t3 t4 t5 t6 t7
 have K:=dN f0 f1 f2 f3 f4 f5 f6;clear f0 f1 f2 f3 f4 f5 f6
 repeat' (first|refine ak ?_|refine al ?_|((first|refine aI ?_|refine aJ ?_|refine aK ?_|exact ao|refine an ?_);try(refine ar [0,1,2,3,4,5,6] fun F k=>?_;replace K:=k;clear k))|(refine aq (fun I=>?_) (fun I=>?_)<;>first|(exfalso;simp(disch:=omega) [H] at I;done)|(exfalso;simp at I;omega)|simp at I)|exact aB|refine aA ?_|exact aD|refine aC ?_|exact trivial)
 all_goals obtain⟨f0,f1,f2,f3,f4,f5,f6⟩:=K
end
end
section
set_option maxHeartbeats 8000000
open Go Go.Eng Go.RowKit
def two (ab cu:Nat):Nat:=ab*4294967296+cu
theorem DL {ab cu:Nat} (h:ab<4294967296) (h2:cu<4294967296):∃R,ab*4294967296=R/\R|||cu=two ab cu/\R<18446744073709551616/\two ab cu<18446744073709551616:=
 ⟨_,rfl,Ln h2,by omega,by simp only[two];omega⟩
theorem Lp {ab cu y:Nat} (h:ab<y) (h2:cu<4294967296) (a2:y<4294967296):two ab cu/y<4294967296/\two ab cu%y<4294967296:=by
 refine⟨?_,Nat.lt_trans (Nat.mod_lt _ (by omega)) a2⟩
 rw[Nat.div_lt_iff_lt_mul (by omega),two]
 have aN:(ab+1)*4294967296<=y*4294967296:=Nat.mul_le_mul_right _ h
 rw[Nat.add_mul] at aN
 rw[Nat.mul_comm 4294967296]
 omega
def lR (x2 x1 x0 y1 y0:Nat):Nat:=min (two (two x2 x1) x0/two y1 y0) 4294967295
theorem Lq {x2 x1 x0 y1 y0:Nat}:lR x2 x1 x0 y1 y0<=4294967295:=Nat.min_le_right _ _
theorem VJ {q r y1 y0 x2 x1 x0:Nat} (aT:q*y1+r=two x2 x1) (h:q*y0<=two r x0):q*two y1 y0<=two (two x2 x1) x0:=by
 rw[<-aT];simp only[two] at*;grind
theorem VK {q r y1 y0 x2 x1 x0:Nat} (aT:q*y1+r=two x2 x1) (h:two r x0<q*y0):two (two x2 x1) x0<q*two y1 y0:=by
 rw[<-aT];simp only[two] at*;grind
theorem Lr {q r y1 y0 x2 x1 x0:Nat} (a2:y1≠0) (aT:q*y1+r=two x2 x1) (r4:lR x2 x1 x0 y1 y0<=q) (U:q<4294967296) (h:q*y0<=two r x0):q=lR x2 x1 x0 y1 y0:=by
 have h2:q<=two (two x2 x1) x0/two y1 y0:=(Nat.le_div_iff_mul_le (by simp only[two];omega)).2 (VJ aT h)
 unfold lR at*;omega
theorem VL {q r y1 y0 x2 x1 x0:Nat} (a2:y1≠0) (aT:q*y1+r=two x2 x1) (h:4294967296<=q\/two r x0<q*y0):lR x2 x1 x0 y1 y0<=q - 1/\1<=q:=by
 rcases h with h|h
 · have:=Lq (x2:=x2) (x1:=x1) (x0:=x0) (y1:=y1) (y0:=y0);omega
 · have h2:two (two x2 x1) x0/two y1 y0<q:=(Nat.div_lt_iff_lt_mul (by simp only[two];omega)).2 (VK aT h)
   unfold lR
   generalize two (two x2 x1) x0/two y1 y0=d at*
   omega
theorem VM {q r y1 y0 x2 x1 x0:Nat} (a2:y1≠0) (ae:x2<=y1) (VN:x1<4294967296) (jW:y0<4294967296) (aT:q*y1+r=two x2 x1) (r4:lR x2 x1 x0 y1 y0<=q) (aU:4294967296<=r):q=lR x2 x1 x0 y1 y0:=by
 have U:q*y1<4294967296*y1:=by
  have:x2*4294967296<=y1*4294967296:=Nat.mul_le_mul_right _ ae
  simp only[two] at aT
  rw[Nat.mul_comm 4294967296]
  omega
 have h2:q<4294967296:=Nat.lt_of_mul_lt_mul_right U
 refine Lr a2 aT r4 h2 ?_
 have aN:q*y0<=4294967295*4294967295:=Nat.mul_le_mul (by omega) (by omega)
 simp only[two]
 omega
theorem VO {y1 x2 x1 x0 y0:Nat} (a2:y1≠0) (ja:x0<4294967296):lR x2 x1 x0 y1 y0<=two x2 x1/y1:=by
 have bk:=Nat.div_add_mod (two x2 x1) y1
 have hm:=Nat.mod_lt (two x2 x1) (Nat.pos_of_ne_zero a2)
 have:two (two x2 x1) x0/two y1 y0<two x2 x1/y1+1:=by
  generalize two x2 x1=t at*
  rw[Nat.div_lt_iff_lt_mul (by simp only[two];omega)]
  generalize t/y1=q at*
  generalize t%y1=r at*
  subst bk
  simp only[two]
  have e:(q+1)*(y1*4294967296+y0)=q*y1*4294967296+y1*4294967296+(q+1)*y0:=by grind
  have ax:(r+1)*4294967296<=y1*4294967296:=Nat.mul_le_mul_right _ hm
  rw[e,Nat.mul_comm y1 q]
  rw[Nat.add_mul] at ax
  rw[Nat.add_mul]
  omega
 unfold lR;omega
end
section
set_option maxHeartbeats 8000000
open Go Go.Eng Go.RowKit
attribute [local simp] a_.m a_.o a_.n a_.g e6 ez c2 cE c4 evalOp.eq_1 evalOp.eq_2 evalOp.eq_3 evalOp.eq_4 evalOp.eq_5 evalOp.eq_6 evalOp.eq_7 evalOp.eq_8 evalOp.eq_9 evalOp.eq_10 evalOp.eq_11 evalOp.eq_12 evalOp.eq_13 evalOp.eq_14 evalOp.eq_15 evalOp.eq_16 evalOp.eq_17 evalOp.eq_18 evalOp.eq_19 evalOp.eq_20 evalOp.eq_21 evalOp.eq_22 evalOp.eq_23 evalOp.eq_24 evalOp.eq_25 evalOp.eq_27 evalOp.eq_28 evalOp.eq_29 ie a6.ev cD aw af.new dW J.cells J.ch J.dO J.dJ gk gm gl gn gq gp hA hB hC ft fu cut partOf bound elems hE hF hG hH hI hJ hK hL hM hN hO hP fJ hQ hR hS hT hU hV hW hX hY hZ h0 h1 h3 h4 h5 h6 h7 h8 h9 h_ ia ib ic ey eh d_ e1 gr fS af.close af.set fU ig ih ij hD fT fR fy ee fH ga fh fI gb gd gf eY eZ e0 eW gu bP f_ gv f' gw gx eQ gy eR gz gA gB fl hz gC gD gE gF gG gH gI gJ gK gL gM gN gO gP gQ gR gS gT gU fx gV gW gX gY gZ g0 g1 g2 g3 g4 g5 g6 g7 g8 g9
attribute [local simp high] hv hx hy g_ g' ha hb hc hd hf hg hh hi hj hk hl hn ho hp hq hr hs ht
attribute [local simp] aQ List.getElem?_cons_zero List.getElem?_cons_succ dC cA fg Nat.mod_eq_of_lt iE iF iG iH fm iI iJ iK
section
attribute [local irreducible] br
attribute [local simp] di db cB
noncomputable def Ls:FuncId->Option (List J->Option J):=cT [(266,yW)]
theorem DM:∀f T,Ls f=some T->a3 Tryz.prog G f T:=cX (by simp only[List.forall_mem_cons];exact ⟨T0,fun _ h=>absurd h (by simp)⟩)
theorem VP:Ls 266=some yW:=rfl
attribute [local simp] VP
noncomputable def zm:List J->Option J:=bu (fun z:Nat × Nat × Nat=>z.1<z.2.2/\z.2.1<4294967296/\z.2.2<4294967296) (fun z=>[bx z.1,bx z.2.1,bx z.2.2]) (fun z=> .bD [bx (two z.1 z.2.1/z.2.2),bx (two z.1 z.2.1%z.2.2)])
theorem VQ (z:Nat × Nat × Nat) (h:z.1<z.2.2/\z.2.1<4294967296/\z.2.2<4294967296) {args:List J} (he:args.map J.loose= [bx z.1,bx z.2.1,bx z.2.2]):zm args=some (.bD [bx (two z.1 z.2.1/z.2.2),bx (two z.1 z.2.1%z.2.2)]):=bM (fun z w h=>by simp only[List.cons.injEq,J.int.injEq,J.bool.injEq,J.sl.injEq,cI,cH,cU,cV,cP,bY,cf,cO,bP,true_and,and_true] at h;simp[h]) z h he
theorem VR:a3 Tryz.prog G 282 zm:=by
 refine bK mixed DM JR fun z ay=>?_
 obtain⟨ab,cu,y⟩:=z
 obtain⟨U,h2,aN⟩:=ay
 simp only at U h2 aN|-
 obtain⟨R,eA,jT,b1,ej⟩:=DL (show ab<4294967296 by omega) h2
 obtain⟨d1,d2⟩:=Lp U h2 aN
 have a2:¬y=0:=by omega
 have wO:0<y:=by omega
 have d3:two ab cu/y<18446744073709551616:=by omega
 have d4:y<18446744073709551616:=by omega
 generalize two ab cu=w at*
 unfold i282
 refine aX [0,1,2,6,7,8,15] fun F K=>?_
 obtain⟨f0,f1,f2,f6,f7,f8,f15⟩:=K
 have H:=kE U a2 wO eA jT b1 ej d1 d2 d3 d4
 have K:=dN f0 f1 f2 f6 f7 f8 f15;clear f0 f1 f2 f6 f7 f8 f15
 repeat' (first|refine ak ?_|refine al ?_|((first|refine aI ?_|refine aJ ?_|refine aK ?_|exact ao|refine an ?_);try(refine ar [0,1,2,6,7,8,15] fun F k=>?_;replace K:=k;clear k))|(refine aq (fun I=>?_) (fun I=>?_)<;>first|(exfalso;simp(disch:=omega) [H] at I;done)|(exfalso;simp at I;omega)|simp at I)|exact aB|refine aA ?_|exact aD|refine aC ?_|exact trivial)
 all_goals obtain⟨f0,f1,f2,f6,f7,f8,f15⟩:=K
noncomputable def zn:List J->Option J:=bu (fun z:Nat=>z<4294967296) (fun z=>[bx z]) (fun z=>a4 (32 - dS z))
theorem VS (z:Nat) (h:z<4294967296) {args:List J} (he:args.map J.loose= [bx z]):zn args=some (a4 (32 - dS z)):=bM (fun z w h=>by simp only[List.cons.injEq,J.int.injEq,J.bool.injEq,J.sl.injEq,cI,cH,cU,cV,cP,bY,cf,cO,bP,true_and,and_true] at h;simp[h]) z h he
theorem VT:a3 Tryz.prog G 260 zn:=by
 refine bK mixed DM JI fun n az=>?_
 have t:=TZ (n:=n) az
 have aa:dS n<=32:=oQ.2 az
 have hw:IntKind.i64.wrap (Z 32 - Z (dS n))=Z (32 - dS n):=cA aa (by decide)
 unfold i260
 refine aX [0,2] fun F K=>?_
 obtain⟨f0,f2⟩:=K
 have H:=bN t hw
 have K:=bN f0 f2;clear f0 f2
 repeat' (first|refine ak ?_|refine al ?_|((first|refine aI ?_|refine aJ ?_|refine aK ?_|exact ao|refine an ?_);try(refine ar [0,2] fun F k=>?_;replace K:=k;clear k))|(refine aq (fun I=>?_) (fun I=>?_)<;>first|(exfalso;simp(disch:=omega) [H] at I;done)|(exfalso;simp at I;omega)|simp at I)|exact aB|refine aA ?_|exact aD|refine aC ?_|exact trivial)
 all_goals obtain⟨f0,f2⟩:=K
noncomputable def uK:List J->Option J:=bu (fun z:Nat × Nat × Nat × Nat × Nat=>z.1<=z.2.2.2.1/\z.2.1<4294967296/\z.2.2.1<4294967296/\z.2.2.2.1<4294967296/\z.2.2.2.2<4294967296/\z.2.2.2.1≠0) (fun z=>[bx z.1,bx z.2.1,bx z.2.2.1,bx z.2.2.2.1,bx z.2.2.2.2]) (fun z=>fo (lR z.1 z.2.1 z.2.2.1 z.2.2.2.1 z.2.2.2.2))
theorem VU (z:Nat × Nat × Nat × Nat × Nat) (h:z.1<=z.2.2.2.1/\z.2.1<4294967296/\z.2.2.1<4294967296/\z.2.2.2.1<4294967296/\z.2.2.2.2<4294967296/\z.2.2.2.1≠0) {args:List J} (he:args.map J.loose= [bx z.1,bx z.2.1,bx z.2.2.1,bx z.2.2.2.1,bx z.2.2.2.2]):uK args=some (fo (lR z.1 z.2.1 z.2.2.1 z.2.2.2.1 z.2.2.2.2)):=bM (fun z w h=>by simp only[List.cons.injEq,J.int.injEq,J.bool.injEq,J.sl.injEq,cI,cH,cU,cV,cP,bY,cf,cO,bP,true_and,and_true] at h;simp[h]) z h he
theorem VV:a3 Tryz.prog G 261 uK:=by
 refine bK mixed DM JJ fun z ay=>?_
 obtain⟨x2,x1,x0,y1,y0⟩:=z
 obtain⟨h2,U,pA,bL,jH,a2⟩:=ay
 simp only at h2 U pA bL jH a2|-
 obtain⟨R,eA,jT,b1,ej⟩:=DL (show x2<4294967296 by omega) U
 have VW:=VO (x2:=x2) (x1:=x1) (y0:=y0) a2 pA
 have gs:=fun q r=>Lr (q:=q) (r:=r) (x2:=x2) (x1:=x1) (x0:=x0) (y0:=y0) a2
 have VX:=fun q r=>VL (q:=q) (r:=r) (x2:=x2) (x1:=x1) (x0:=x0) (y0:=y0) a2
 have oV:=fun q r=>VM (q:=q) (r:=r) (x2:=x2) (x1:=x1) (x0:=x0) (y0:=y0) a2 h2 U jH
 generalize lR x2 x1 x0 y1 y0=Lt at*
 generalize two x2 x1=w at*
 have wO:0<y1:=by omega
 have d4:y1<18446744073709551616:=by omega
 have ux:=Nat.div_le_self w y1
 have Lu:=Nat.mod_lt w wO
 have VY:=Nat.div_add_mod w y1
 have d5:w/y1<18446744073709551616:=by omega
 unfold i261
 refine aX [0,1,2,3,4,10,11,12,13,41,49] fun F K=>?_
 obtain⟨f0,f1,f2,f3,f4,f10,f11,f12,f13,f41,f49⟩:=K
 have H:=e7 a2 wO eA jT b1 ej d4 d5
 have K:=kE f0 f1 f2 f3 f4 f10 f11 f12 f13 f41 f49;clear f0 f1 f2 f3 f4 f10 f11 f12 f13 f41 f49
 repeat' (first|refine ak ?_|refine al ?_|((first|refine aI ?_|refine aJ ?_|refine aK ?_|exact ao|refine an ?_);try(refine ar [0,1,2,3,4,10,11,12,13,41,49] fun F k=>?_;replace K:=k;clear k))|(refine aq (fun I=>?_) (fun I=>?_)<;>first|(exfalso;simp(disch:=omega) [H] at I;done)|(exfalso;simp at I;omega)|simp at I)|exact aB|refine aA ?_|exact aD|refine aC ?_|exact trivial)
 all_goals obtain⟨f0,f1,f2,f3,f4,f10,f11,f12,f13,f41,f49⟩:=K
 refine mZ (fun q s=>∃r,q*y1+r=w/\Lt<=q/\r<4294967296/\s.F 12=fo q/\s.F 13=fo r) (fun s=>s.F 12=fo Lt) (fun _=>False) (w/y1) ?_ ?_ ?_ (fun _ _ h=>h.elim)
 · exact ⟨w%y1,by rw[Nat.mul_comm];exact VY,VW,by omega,f12,f13⟩
 · clear eA jT b1
   rintro q s ag ⟨r,aT,r4,aU,nv,sV⟩
   replace f2:=(ag 2 rfl).trans f2;replace f3:=(ag 3 rfl).trans f3;replace f4:=(ag 4 rfl).trans f4
   clear f12 f13
   have f12:=nv
   have f13:=sV
   obtain⟨aeq,DN,d',kQ,DO⟩:=DL aU pA
   have aer:q<18446744073709551616:=by
    have:q*1<=q*y1:=Nat.mul_le_mul_left q wO
    omega
   have DP:y0<18446744073709551616:=by omega
   have s1:=gs q r aT r4
   have s2:=VX q r aT
   generalize two r x0=v at*
   have main:(q<4294967296/\q*y0<=v)\/(4294967296<=q\/(q<4294967296/\v<q*y0)):=by omega
   have DQ:q<4294967296->q*y0<18446744073709551616:=fun h=>by
    have:q*y0<=4294967295*4294967295:=Nat.mul_le_mul (by omega) (by omega)
    omega
   have K:=bH f2 f3 f4 f12 f13;clear f2 f3 f4 f12 f13
   refine bU [2,3,4,12,13,41,49] fun F k=>?_;clear K
   obtain⟨f2,f3,f4,f12,f13,f41,f49⟩:=k
   rcases main with⟨dg,eI⟩|main
   · have e:=s1 dg eI
     have wP:=DQ dg
     generalize wQ:q*y0=Lv at*
     have H:=ik DN d' kQ DO wQ dg eI wP DP
     have K:=dN f2 f3 f4 f12 f13 f41 f49;clear f2 f3 f4 f12 f13 f41 f49
     repeat' (first|refine ak ?_|refine al ?_|((first|refine aI ?_|refine aJ ?_|refine aK ?_|exact ao|refine an ?_);try(refine ar [2,3,4,12,13,41,49] fun F k=>?_;replace K:=k;clear k))|(refine aq (fun I=>?_) (fun I=>?_)<;>first|(exfalso;simp(disch:=omega) [H] at I;done)|(exfalso;simp at I;omega)|simp at I)|exact aB|refine aA ?_|exact aD|refine aC ?_|exact trivial)
     all_goals obtain⟨f2,f3,f4,f12,f13,f41,f49⟩:=K
     first|exact e|(rw[f12,e])
   · obtain⟨kr,lC⟩:=s2 (by omega)
     have au:(q+18446744073709551615)%18446744073709551616=q - 1:=by omega
     have ax:r+y1<18446744073709551616:=by omega
     have qK:(q - 1)*y1+(r+y1)=w:=by
      rw[<-aT]
      obtain⟨p,rfl⟩:∃p,q=p+1:=⟨q - 1,by omega⟩
      rw[Nat.add_sub_cancel,Nat.add_mul];omega
     by_cases wR:4294967296<=r+y1
     · have e:=oV (q - 1) (r+y1) qK kr wR
       rcases main with dg|⟨dg,eI⟩
       · skip
         have H:=bH dg au ax wR d4
         have K:=dN f2 f3 f4 f12 f13 f41 f49;clear f2 f3 f4 f12 f13 f41 f49
         repeat' (first|refine ak ?_|refine al ?_|((first|refine aI ?_|refine aJ ?_|refine aK ?_|exact ao|refine an ?_);try(refine ar [2,3,4,12,13,41,49] fun F k=>?_;replace K:=k;clear k))|(refine aq (fun I=>?_) (fun I=>?_)<;>first|(exfalso;simp(disch:=omega) [H] at I;done)|(exfalso;simp at I;omega)|simp at I)|exact aB|refine aA ?_|exact aD|refine aC ?_|exact trivial)
         all_goals obtain⟨f2,f3,f4,f12,f13,f41,f49⟩:=K
         first|exact e|(rw[f12,e])
       · have wP:=DQ dg
         generalize wQ:q*y0=Lv at*
         have H:=kF DN d' kQ DO wQ dg eI wP DP au ax wR d4
         have K:=dN f2 f3 f4 f12 f13 f41 f49;clear f2 f3 f4 f12 f13 f41 f49
         repeat' (first|refine ak ?_|refine al ?_|((first|refine aI ?_|refine aJ ?_|refine aK ?_|exact ao|refine an ?_);try(refine ar [2,3,4,12,13,41,49] fun F k=>?_;replace K:=k;clear k))|(refine aq (fun I=>?_) (fun I=>?_)<;>first|(exfalso;simp(disch:=omega) [H] at I;done)|(exfalso;simp at I;omega)|simp at I)|exact aB|refine aA ?_|exact aD|refine aC ?_|exact trivial)
         all_goals obtain⟨f2,f3,f4,f12,f13,f41,f49⟩:=K
         first|exact e|(rw[f12,e])
     · rcases main with dg|⟨dg,eI⟩
       · skip
         have H:=bH dg au ax wR d4
         have K:=dN f2 f3 f4 f12 f13 f41 f49;clear f2 f3 f4 f12 f13 f41 f49
         repeat' (first|refine ak ?_|refine al ?_|((first|refine aI ?_|refine aJ ?_|refine aK ?_|exact ao|refine an ?_);try(refine ar [2,3,4,12,13,41,49] fun F k=>?_;replace K:=k;clear k))|(refine aq (fun I=>?_) (fun I=>?_)<;>first|(exfalso;simp(disch:=omega) [H] at I;done)|(exfalso;simp at I;omega)|simp at I)|exact aB|refine aA ?_|exact aD|refine aC ?_|exact trivial)
         all_goals obtain⟨f2,f3,f4,f12,f13,f41,f49⟩:=K
         exact ⟨q - 1,by omega,r+y1,qK,kr,by omega,by first|rfl|exact f12,by first|rfl|exact f13⟩
       · have wP:=DQ dg
         generalize wQ:q*y0=Lv at*
         have H:=kF DN d' kQ DO wQ dg eI wP DP au ax wR d4
         have K:=dN f2 f3 f4 f12 f13 f41 f49;clear f2 f3 f4 f12 f13 f41 f49
         repeat' (first|refine ak ?_|refine al ?_|((first|refine aI ?_|refine aJ ?_|refine aK ?_|exact ao|refine an ?_);try(refine ar [2,3,4,12,13,41,49] fun F k=>?_;replace K:=k;clear k))|(refine aq (fun I=>?_) (fun I=>?_)<;>first|(exfalso;simp(disch:=omega) [H] at I;done)|(exfalso;simp at I;omega)|simp at I)|exact aB|refine aA ?_|exact aD|refine aC ?_|exact trivial)
         all_goals obtain⟨f2,f3,f4,f12,f13,f41,f49⟩:=K
         exact ⟨q - 1,by omega,r+y1,qK,kr,by omega,by first|rfl|exact f12,by first|rfl|exact f13⟩
 · rintro s ag nv
   clear f12 f13
   have f12:=nv
   have K:=f12;clear f12
   refine bU [10,12] fun F k=>?_;clear K
   obtain⟨f10,f12⟩:=k
   have H:=trivial
   have K:=bN f10 f12;clear f10 f12
   repeat' (first|refine ak ?_|refine al ?_|((first|refine aI ?_|refine aJ ?_|refine aK ?_|exact ao|refine an ?_);try(refine ar [10,12] fun F k=>?_;replace K:=k;clear k))|(refine aq (fun I=>?_) (fun I=>?_)<;>first|(exfalso;simp(disch:=omega) [H] at I;done)|(exfalso;simp at I;omega)|simp at I)|exact aB|refine aA ?_|exact aD|refine aC ?_|exact trivial)
   all_goals obtain⟨f10,f12⟩:=K
end
section
attribute [local irreducible] br
attribute [local simp] di db cB
noncomputable def rf:FuncId->Option (List J->Option J):=cT [(170,kH),(282,zm)]
theorem VZ:∀f T,rf f=some T->a3 Tryz.prog G f T:=cX (by simp only[List.forall_mem_cons];exact ⟨pQ,VR,fun _ h=>absurd h (by simp)⟩)
theorem V0:rf 170=some kH:=rfl
theorem V1:rf 282=some zm:=rfl
theorem V2:rf 281=none:=rfl
theorem V3:rf 293=none:=rfl
attribute [local simp] V0 V1 V2 V3
structure sW (bR ck ct q y a m L i:Nat) (o:List Nat) (r:Nat) (h:af):Prop where
 ol:o.length=L
 os:Small o
 DR:∀j,j<i->aP o j=0
 dL:r<m
 eq:m*val o+ah i*r=ah i*(a/ah i)
 dc:h.cells bR=some [bx m]
 iR:h.cells ck=some [.ref q 0 L L]
 nR:h.cells ct=some [bx r]
 k_:h.cells q=some (bm o)
 la:h.shut q=false
 n6:h.shut ct=false
 kk:h.a7 y=some .ready
 sX:y<h.next
theorem sW.bump {bR ck ct q y a m L i:Nat} {o:List Nat} {r:Nat} {h:af} (av:sW bR ck ct q y a m L i o r h) (n:Nat) (az:h.next<=n):sW bR ck ct q y a m L i o r ⟨h.cells,h.shut,n,h.a7⟩:=
 ⟨av.ol,av.os,av.DR,av.dL,av.eq,av.dc,av.iR,av.nR,av.k_,av.la,av.n6,av.kk,Nat.lt_of_lt_of_le av.sX az⟩
theorem V4 (Y:List cR) {F:Nat->J} {a m L i:Nat} (f3:F 3= .ptr 0 0 0) (f7:F 7= .ptr 9 0 0) (f8:F 8= .ptr 11 0 0) {h:af} {o:List Nat} {r:Nat} (hm:m<4294967296) (av:sW 0 9 11 8 18 a m L (i+1) o r h) (ab:i<L):
 ∃u h',eP G (aR Tryz.prog) rf (⟨18,F,[18,19],(.seq (.region false [⟨(some 9),(.mv (.t 18)),none⟩] []) (.region false [⟨(some 10),(.mv (.t 19)),none⟩] [])),(.block 1 (.region true [⟨(some 21),(.load false 1 (.t 7)),none⟩,⟨(some 22),(.mv (.t 9)),none⟩,⟨(some 23),(.load false 1 (.t 8)),none⟩,⟨(some 24),(.mv (.t 10)),none⟩,⟨(some 25),(.load false 1 (.t 3)),none⟩,⟨(some 26),(.call (.f 282) [(.t 23),(.t 24),(.t 25)]),none⟩,⟨(some 20),(.mv (.t 26)),none⟩,⟨(some 27),(.extract (.t 20) 0),none⟩,⟨(some 28),(.extract (.t 20) 1),none⟩,⟨(some 29),(.iaddrS 1 (.t 21) (.t 22)),none⟩,⟨none,(.store 1 (.t 29) (.t 27)),none⟩,⟨none,(.store 1 (.t 8) (.t 28)),none⟩] [0,0,0,0,0,28,60,124,124,255,767,2047]))⟩::Y) (.lk 18) [a4 i,bx (a/ah i%4294967296)] h=some (u,h')/\u= .bool true/\(∃o' jd,sW 0 9 11 8 18 a m L i o' jd h')/\h.next<=h'.next/\∀j,j=14->h'.cells j=h.cells j:=by
 have ae:a/ah i%4294967296<4294967296:=Nat.mod_lt _ (by decide)
 obtain⟨x,ja⟩:∃x,x=a/ah i%4294967296:=⟨_,rfl⟩
 rw[<-ja] at ae|-
 have t:=VQ (r,x,m) ⟨av.dL,ae,hm⟩ (args:=[bx r,bx x,bx m]) (by simp)
 simp only at t
 obtain⟨d1,d2⟩:=Lp av.dL ae hm
 have iV:=av.ol
 have st:=Vt (y:=aP o i) (m3 (two r x/m) (show i<o.length by omega)) (av.DR i (by omega)) (by have:=av.eq;rw[et] at this;exact this) rfl
 rw[ja,<-et,q2,Nat.mod_add_div] at st
 rw[<-ja] at st
 have go:=kf (show i<o.length by omega)
 have sz:=kI (show 0<o.length by omega)
 have set:=oW o i (two r x/m)
 have dc:=av.dc
 have iR:=av.iR
 have nR:=av.nR
 have k_:=av.k_
 have la:=av.la
 have n6:=av.n6
 have sX:=av.sX
 clear ja
 generalize two r x=z at*
 refine Ia (L:=⟨18,F,[18,19],(.seq (.region false [⟨(some 9),(.mv (.t 18)),none⟩] []) (.region false [⟨(some 10),(.mv (.t 19)),none⟩] [])),(.block 1 (.region true [⟨(some 21),(.load false 1 (.t 7)),none⟩,⟨(some 22),(.mv (.t 9)),none⟩,⟨(some 23),(.load false 1 (.t 8)),none⟩,⟨(some 24),(.mv (.t 10)),none⟩,⟨(some 25),(.load false 1 (.t 3)),none⟩,⟨(some 26),(.call (.f 282) [(.t 23),(.t 24),(.t 25)]),none⟩,⟨(some 20),(.mv (.t 26)),none⟩,⟨(some 27),(.extract (.t 20) 0),none⟩,⟨(some 28),(.extract (.t 20) 1),none⟩,⟨(some 29),(.iaddrS 1 (.t 21) (.t 22)),none⟩,⟨none,(.store 1 (.t 29) (.t 27)),none⟩,⟨none,(.store 1 (.t 8) (.t 28)),none⟩] [0,0,0,0,0,28,60,124,124,255,767,2047]))⟩) (Y':=Y) (by simp[oo]) rfl ?_
 simp only[nd]
 have fG:aw (aw F 18 (a4 i)) 19 (bx x) 3= .ptr 0 0 0:=by simp[aw,f3]
 have eK:aw (aw F 18 (a4 i)) 19 (bx x) 7= .ptr 9 0 0:=by simp[aw,f7]
 have eT:aw (aw F 18 (a4 i)) 19 (bx x) 8= .ptr 11 0 0:=by simp[aw,f8]
 refine bl (bs oJ ?_)
 simp
 refine bs oJ ?_
 simp[av.kk,Nat.add_assoc]
 refine kd (bs oJ ?_)
 simp(disch:=omega) [aQ,List.getElem?_cons_zero,List.getElem?_cons_succ,dC,cA,fg,Nat.mod_eq_of_lt,iE,iF,iG,iH,fm,iI,iJ,iK,f3,f7,f8,dc,iR,nR,k_,la,n6,t,go,sz,set,ab,Nat.add_assoc,tw,kx,xD,pj,qx]
 refine⟨by decide,o.set i (z/m),z%m,by rw[List.length_set];exact iV,m4 av.os d1,fun j aO=>?_,Nat.mod_lt _ (by have:=av.dL;omega),st,by simp[aw,dc],by simp[aw,iR],by simp[aw],by simp[aw],la,n6,by simp[aw],by show 18<h.next+14;omega⟩
 rw[ns _ _ (by omega),if_neg (by omega)]
 exact av.DR j (by omega)
theorem V5 (Y:List cR) (h:af) (l:List Nat) (e:Bool):
 eP G (aR Tryz.prog) rf Y (.fn 281) [cg l e] h=some (.fn 293 [] [.ptr h.next 0 0],⟨aw h.cells h.next (some [cg l e]),h.shut,h.next+4,h.a7⟩):=by
 obtain⟨v,h',e,rfl,rfl⟩:=j0 (Φ:=aR Tryz.prog) (G:=G) (tab:=rf) (Y:=Y) (h:=h) (args:=[cg l e]) (R:=fun v h'=>v= .fn 293 [] [.ptr h.next 0 0]/\h'=⟨aw h.cells h.next (some [cg l e]),h.shut,h.next+4,h.a7⟩) JQ (by
  unfold i281
  refine aX [0,1,2] fun F K=>?_
  obtain⟨f0,f1,f2⟩:=K
  have H:=(@Nat.add_assoc)
  have K:=bI f0 f1 f2;clear f0 f1 f2
  repeat' (first|refine ak ?_|refine al ?_|((first|refine b4 ?_|refine b5 ?_|refine b6 ?_|exact ao|refine an ?_);try(refine ar [0,1,2] fun F k=>?_;replace K:=k;clear k))|(refine aq (fun I=>?_) (fun I=>?_)<;>first|(exfalso;simp(disch:=omega) [H] at I;done)|(exfalso;simp at I;omega)|simp at I)|exact aB|refine aA ?_|exact aD|refine aC ?_|exact trivial)
  all_goals obtain⟨f0,f1,f2⟩:=K
  try refine ca ?_
  simp[jw,f2])
 exact e
noncomputable def uL:List J->Option J:=bu (fun z:Nat × Nat=>(ad z.1).length<=100000000/\z.2<4294967296) (fun z=>[ai z.1,bx z.2]) (fun z=>if z.2=0 then .bD [.sl [] false,bx 0,a4 3] else .bD [ai (z.1/z.2),bx (z.1%z.2),a4 0])
theorem V6 (z:Nat × Nat) (h:(ad z.1).length<=100000000/\z.2<4294967296) {args:List J} (he:args.map J.loose= [ai z.1,bx z.2]):uL args=some (if z.2=0 then .bD [.sl [] false,bx 0,a4 3] else .bD [ai (z.1/z.2),bx (z.1%z.2),a4 0]):=bM (fun z w h=>by simp only[List.cons.injEq,J.int.injEq,J.bool.injEq,J.sl.injEq,cI,cH,cU,cV,cP,bY,cf,cO,bP,true_and,and_true] at h;simp[h]) z h he
theorem Lw:a3 Tryz.prog G 259 uL:=by
 refine bK mixed VZ JH fun z ay=>?_
 obtain⟨a,m⟩:=z
 obtain⟨bQ,hm⟩:=ay
 simp only at bQ hm|-
 unfold i259
 by_cases n0:m=0
 · rw[if_pos n0]
   subst n0
   refine aX [0,1,3,4,5,6,7,8,9,10,12,17,18,19] fun F K=>?_
   obtain⟨f0,f1,f3,f4,f5,f6,f7,f8,f9,f10,f12,f17,f18,f19⟩:=K
   have H:=trivial
   have K:=wm f0 f1 f3 f4 f5 f6 f7 f8 f9 f10 f12 f17 f18 f19;clear f0 f1 f3 f4 f5 f6 f7 f8 f9 f10 f12 f17 f18 f19
   repeat' (first|refine ak ?_|refine al ?_|((first|refine b4 ?_|refine b5 ?_|refine b6 ?_|exact ao|refine an ?_);try(refine ar [0,1,3,4,5,6,7,8,9,10,12,17,18,19] fun F k=>?_;replace K:=k;clear k))|(refine aq (fun I=>?_) (fun I=>?_)<;>first|(exfalso;simp(disch:=omega) [H] at I;done)|(exfalso;simp at I;omega)|simp at I)|exact aB|refine aA ?_|exact aD|refine aC ?_|exact trivial)
   all_goals obtain⟨f0,f1,f3,f4,f5,f6,f7,f8,f9,f10,f12,f17,f18,f19⟩:=K
 · rw[if_neg n0]
   have aV:=dZ a
   obtain⟨L,bq⟩:∃L,L=(ad a).length:=⟨_,rfl⟩
   have bg:a<ah L:=cN.1 (by omega)
   have a8:Z L*4<=140737488355328:=by simp only[Z];omega
   refine aX [0,1,3,4,5,6,7,8,9,10,12,17,18,19] fun F K=>?_
   obtain⟨f0,f1,f3,f4,f5,f6,f7,f8,f9,f10,f12,f17,f18,f19⟩:=K
   have H:=bH n0 a8 (@zg) (@V5) bq.symm
   have K:=wm f0 f1 f3 f4 f5 f6 f7 f8 f9 f10 f12 f17 f18 f19;clear f0 f1 f3 f4 f5 f6 f7 f8 f9 f10 f12 f17 f18 f19
   repeat' (first|refine ak ?_|refine al ?_|((first|refine b4 ?_|refine b5 ?_|refine b6 ?_|exact ao|refine an ?_);try(refine ar [0,1,3,4,5,6,7,8,9,10,12,17,18,19] fun F k=>?_;replace K:=k;clear k))|(refine aq (fun I=>?_) (fun I=>?_)<;>first|(exfalso;simp(disch:=omega) [H] at I;done)|(exfalso;simp at I;omega)|simp at I)|exact aB|refine aA ?_|exact aD|refine aC ?_|exact trivial)
   all_goals obtain⟨f0,f1,f3,f4,f5,f6,f7,f8,f9,f10,f12,f17,f18,f19⟩:=K
   refine kd (H9 f17 JU ?_)
   have fG:=f3
   have eK:=f7
   have eT:=f8
   clear f0 f1 f3 f4 f5 f6 f7 f8 f9 f10 f12 f17 f18 f19
   unfold i293
   simp
   have sO:IntKind.i64.wrap (Z L - Z 1)=eJ L:=kG (by omega)
   refine aX [0,1,3,8,18] fun F K=>?_
   obtain⟨f0,f1,f3,f8,f18⟩:=K
   have H:=bN sO bq.symm
   have K:=bH f0 f1 f3 f8 f18;clear f0 f1 f3 f8 f18
   repeat' (first|refine ak ?_|refine al ?_|((first|refine b4 ?_|refine b5 ?_|refine b6 ?_|exact ao|refine an ?_);try(refine ar [0,1,3,8,18] fun F k=>?_;replace K:=k;clear k))|(refine aq (fun I=>?_) (fun I=>?_)<;>first|(exfalso;simp(disch:=omega) [H] at I;done)|(exfalso;simp at I;omega)|simp at I)|exact aB|refine aA ?_|exact aD|refine aC ?_|exact trivial)
   all_goals obtain⟨f0,f1,f3,f8,f18⟩:=K
   refine mZ (fun k s=>k<=L/\(∃o r,sW 0 9 11 8 18 a m L k o r s.h)/\s.h.cells 14=some [ai a]/\s.F 3= .int .i64 (eJ k)) (fun s=>∃o r,sW 0 9 11 8 18 a m L 0 o r s.h) (fun _=>False) L ?_ ?_ ?_ (fun _ _ h=>h.elim)
   · refine⟨Nat.le_refl _,⟨List.replicate L 0,0,?_⟩,by simp[aw],f3⟩
     exact ⟨by simp,pO _,fun j _=>wy _ _,by omega,by simp[sy,Nat.div_eq_of_lt bg],by simp[aw],by simp[aw],by simp[aw],by simp[aw],by simp,by simp,by simp[aw],by simp⟩
   · rintro k s ag ⟨aes,⟨o,r,av⟩,ur,Lx⟩
     replace f0:=(ag 0 rfl).trans f0;replace f1:=(ag 1 rfl).trans f1
     clear f3
     have f3:=Lx
     clear Lx
     have K:=bI f0 f1 f3;clear f0 f1 f3
     refine bU [0,1,3,8,18] fun F k=>?_;clear K
     obtain⟨f0,f1,f3,f8,f18⟩:=k
     cases k with
     | zero=>
       rw[nY] at f3
       have H:=(@re)
       have K:=bH f0 f1 f3 f8 f18;clear f0 f1 f3 f8 f18
       repeat' (first|refine ak ?_|refine al ?_|((first|refine b4 ?_|refine b5 ?_|refine b6 ?_|exact ao|refine an ?_);try(refine ar [0,1,3,8,18] fun F k=>?_;replace K:=k;clear k))|(refine aq (fun I=>?_) (fun I=>?_)<;>first|(exfalso;simp(disch:=omega) [H] at I;done)|(exfalso;simp at I;omega)|simp at I)|exact aB|refine aA ?_|exact aD|refine aC ?_|exact trivial)
       all_goals obtain⟨f0,f1,f3,f8,f18⟩:=K
       exact ⟨o,r,av.bump _ (by omega)⟩
     | succ i=>
       rw[nZ] at f3
       have m8:=(kp (show i<(ad a).length by omega)).symm
       rw[iy] at m8
       have n2:=fun n az=>av.bump n az
       have pX:i<L:=by omega
       have V7:IntKind.i64.wrap (Z i - Z 1)=eJ i:=kG (by omega)
       obtain⟨u,h',r9,rfl,uu,sj,rh⟩:=V4 [] fG eK eT hm (n2 (s.h.next+10) (by omega)) pX
       have rh:=rh 14 rfl
       simp only at sj rh
       rw[ur] at rh
       have sX:=av.sX
       have H:=dN ur m8 pX V7 r9 (@Nat.add_assoc) bq.symm
       have K:=bH f0 f1 f3 f8 f18;clear f0 f1 f3 f8 f18
       repeat' (first|refine ak ?_|refine al ?_|((first|refine b4 ?_|refine b5 ?_|refine b6 ?_|exact ao|refine an ?_);try(refine ar [0,1,3,8,18] fun F k=>?_;replace K:=k;clear k))|(refine aq (fun I=>?_) (fun I=>?_)<;>first|(exfalso;simp(disch:=omega) [H] at I;done)|(exfalso;simp at I;omega)|simp at I)|exact aB|refine aA ?_|exact aD|refine aC ?_|exact trivial)
       all_goals obtain⟨f0,f1,f3,f8,f18⟩:=K
       obtain⟨o',jd,uu⟩:=uu
       exact ⟨i,Nat.lt_succ_self i,by omega,⟨o',jd,uu.bump _ (by omega)⟩,rh,by first|rfl|exact f3⟩
   · rintro s ag ⟨o,r,av⟩
     have iR:=av.iR
     have nR:=av.nR
     have k_:=av.k_
     have iV:=av.ol
     have sX:=av.sX
     have V8:8<s.h.next:=by omega
     have DS:9<s.h.next:=by omega
     have V9:11<s.h.next:=by omega
     have e:=av.eq
     rw[fA,Nat.one_mul,Nat.one_mul,Nat.div_one] at e
     have uM:=av.dL
     have au:val o=a/m:=by rw[<-e,Nat.mul_add_div (by omega),Nat.div_eq_of_lt uM,Nat.add_zero]
     have ax:r=a%m:=by rw[<-e,Nat.mul_add_mod,Nat.mod_eq_of_lt uM]
     have cZ:=oR (e:=false) av.os (show o.length<=1073741824 by omega)
     rw[au] at cZ
     have iW:=zi (show o.length<=L by omega)
     have nO:=zh o
     have ks:=pW o
     have hle:L<=(bm o).length:=by omega
     rw[show (o.map fun n=>J.int .u32 (Z n))=bm o from rfl] at cZ
     refine⟨trivial,⟨_,rfl⟩,?_⟩
     simp only[av.kk]
     rw[<-ax]
     generalize a/m=V_ at*
     simp
     have f7:=eK
     have f8:=eT
     have K:=bN f7 f8;clear f7 f8
     refine bU [4,5,6,7,8] fun F k=>?_;clear K
     obtain⟨f4,f5,f6,f7,f8⟩:=k
     have H:=iT iR nR k_ cZ iW nO hle V8 DS V9
     have K:=bH f4 f5 f6 f7 f8;clear f4 f5 f6 f7 f8
     repeat' (first|refine ak ?_|refine al ?_|((first|refine b4 ?_|refine b5 ?_|refine b6 ?_|exact ao|refine an ?_);try(refine ar [4,5,6,7,8] fun F k=>?_;replace K:=k;clear k))|(refine aq (fun I=>?_) (fun I=>?_)<;>first|(exfalso;simp(disch:=omega) [H] at I;done)|(exfalso;simp at I;omega)|simp at I)|exact aB|refine aA ?_|exact aD|refine aC ?_|exact trivial)
     all_goals obtain⟨f4,f5,f6,f7,f8⟩:=K
end
section
attribute [local irreducible] br
attribute [local simp] di db cB
noncomputable def jR:FuncId->Option (List J->Option J):=cT [(171,nt),(259,uL),(260,zn),(261,uK),(173,mf),(241,sG),(245,sH)]
theorem V':∀f T,jR f=some T->a3 Tryz.prog G f T:=cX (by simp only[List.forall_mem_cons];exact ⟨wD,Lw,VT,VV,Dk,KB,KD,fun _ h=>absurd h (by simp)⟩)
theorem zo:jR 171=some nt:=rfl
theorem Wa:jR 259=some uL:=rfl
theorem zp:jR 260=some zn:=rfl
theorem zq:jR 261=some uK:=rfl
theorem zr:jR 173=some mf:=rfl
theorem Ly:jR 241=some sG:=rfl
theorem Lz:jR 245=some sH:=rfl
theorem zt:jR 170=none:=rfl
theorem Wb:jR 238=none:=rfl
theorem zu:jR 172=none:=rfl
theorem wS:jR 262=none:=rfl
theorem wT:jR 263=none:=rfl
theorem Wc:jR 205=none:=rfl
attribute [local simp] zo Wa zp zq zr Ly Lz zt Wb zu wS wT Wc
structure Own (h h':af) (v:J) (o:List Nat):Prop where
 kept:Kept h h'
 val:(o= []/\v= .sl [] true)\/∃r,v= .ref r 0 o.length o.length/\h.next<=r/\fq h' r o
theorem Wd (o:List Nat) (n:Nat):List.take n (bm o)=bm (o.take n):=by rw[bm,bm,List.map_take]
theorem We (o:List Nat):(bm o).all (fun e=>e.cells.length == 1&&e.cells.all J.ch)=true:=by simp[bm,J.cells,J.ch]
theorem Wf (o:List Nat):(bm o).all (fun e=>e.cells.length == 1)=true:=by simp[bm,J.cells]
theorem Wg {r:Nat} {h:af} {q n N:Nat} {o:List Nat} (I:h.cells q=some (bm o)) (az:n<=o.length) (aQ:0<n) (aG:n<=1000000000):
 jL r 1 4 h (.sl [] true) (.ref q 0 n N)=some (.ref r 0 n n,h.new r (bm (o.take n)),.wr):=by
 have e:elems h (.ref q 0 n N)=some (bm (o.take n)):=by
  simp only[elems,I];rw[if_pos (by rw[pW];omega),List.drop_zero,Wd]
 have hle:(bm (o.take n)).length=n:=by rw[pW,List.length_take];omega
 unfold jL
 rw[e]
 simp only[Option.bind_some]
 rw[if_pos ⟨by decide,by decide,We _⟩,if_neg (by omega)]
 simp only[kg,hle,List.length_nil,Nat.zero_add,List.nil_append,Bool.false_eq_true,if_false]
 rw[if_pos (by refine⟨?_,?_,aQ,?_⟩<;>first|trivial|omega|rfl)]
theorem Wh (Y:List cR) (h:af) (b8:∀j,h.shut j=false) {q n:Nat} {o:List Nat} (V:fq h q o) (az:n<=o.length) (aQ:0<o.length) (aG:o.length<=1000000000):
 ∃v h',eP G (aR Tryz.prog) jR Y (.fn 238) [.ref q 0 n o.length] h=some (v,h')/\Own h h' v (o.take n):=by
 refine j0 CK ?_
 have dT:=V.cells
 have df:=kI aQ
 unfold i238
 by_cases r7:n=0
 · subst r7
   have el:∀m p,elems ⟨h.cells,h.shut,m,p⟩ (.ref q 0 0 o.length)=some []:=fun m p=>by simp[elems,dT]
   have ap:∀m p r,jL r 1 4 ⟨h.cells,h.shut,m,p⟩ (.sl [] true) (.ref q 0 0 o.length)=some (.sl [] true,⟨h.cells,h.shut,m,p⟩,.wr):=fun m p r=>by
    unfold jL;rw[el];simp[kg]
   refine aX [0,2,4] fun F K=>?_
   obtain⟨f0,f2,f4⟩:=K
   have H:=bN (@aQ) ap
   have K:=bI f0 f2 f4;clear f0 f2 f4
   repeat' (first|refine ak ?_|refine al ?_|((first|refine b4 ?_|refine b5 ?_|refine b6 ?_|exact ao|refine an ?_);try(refine ar [0,2,4] fun F k=>?_;replace K:=k;clear k))|(refine aq (fun I=>?_) (fun I=>?_)<;>first|(exfalso;simp(disch:=omega) [H] at I;done)|(exfalso;simp at I;omega)|simp at I)|exact aB|refine aA ?_|exact aD|refine aC ?_|exact trivial)
   all_goals obtain⟨f0,f2,f4⟩:=K
   try refine ca ?_
   simp[jw,f2]
   exact ⟨(Kept.mF h).bump _ (by omega),.inl ⟨by simp,rfl⟩⟩
 · have ap:∀m p r,jL r 1 4 ⟨h.cells,h.shut,m,p⟩ (.sl [] true) (.ref q 0 n o.length)=some (.ref r 0 n n,⟨aw h.cells r (some (bm (o.take n))),h.shut,m,p⟩,.wr):=fun m p r=>Wg dT az (by omega) (by omega)
   have hle:(o.take n).length=n:=by rw[List.length_take];omega
   refine aX [0,2,4] fun F K=>?_
   obtain⟨f0,f2,f4⟩:=K
   have H:=bN (@aQ) ap
   have K:=bI f0 f2 f4;clear f0 f2 f4
   repeat' (first|refine ak ?_|refine al ?_|((first|refine b4 ?_|refine b5 ?_|refine b6 ?_|exact ao|refine an ?_);try(refine ar [0,2,4] fun F k=>?_;replace K:=k;clear k))|(refine aq (fun I=>?_) (fun I=>?_)<;>first|(exfalso;simp(disch:=omega) [H] at I;done)|(exfalso;simp at I;omega)|simp at I)|exact aB|refine aA ?_|exact aD|refine aC ?_|exact trivial)
   all_goals obtain⟨f0,f2,f4⟩:=K
   try refine ca ?_
   simp[jw,f2]
   exact ⟨(Kept.mF h).new _ _ (by omega) (by omega),.inr ⟨_,by rw[hle],by omega,⟨by simp only[aw,if_true],b8 _,by show h.next+1+2+2<h.next+1+2+4;omega⟩⟩⟩
theorem Own.trans {a b c:af} {v:J} {o:List Nat} (k:Kept a b) (x:Own b c v o):Own a c v o:=
 ⟨k.trans x.kept,x.val.imp id fun⟨r,U,h2,aN⟩=>⟨r,U,Nat.le_trans k.next h2,aN⟩⟩
theorem fq.kept {h h':af} {q:Nat} {o:List Nat} (V:fq h q o) (k:Kept h h'):fq h' q o:=⟨by rw[k.cells q V.dj];exact V.cells,by rw[k.shut];exact V.b9,Nat.lt_of_lt_of_le V.dj k.next⟩
theorem DT (Y:List cR) (h:af) (b8:∀j,h.shut j=false) {q:Nat} {o:List Nat} (V:fq h q o) (aE:Small o) (aQ:0<o.length) (aG:o.length<=1000000000):
 ∃v h',eP G (aR Tryz.prog) jR Y (.fn 170) [.ref q 0 o.length o.length] h=some (v,h')/\Own h h' v (ad (val o)):=by
 refine j0 CH ?_
 have df:=kI aQ
 unfold i170
 refine aX [0,2,3,15] fun F K=>?_
 obtain⟨f0,f2,f3,f15⟩:=K
 have H:=trivial
 have K:=b7 f0 f2 f3 f15;clear f0 f2 f3 f15
 repeat' (first|refine ak ?_|refine al ?_|((first|refine b4 ?_|refine b5 ?_|refine b6 ?_|exact ao|refine an ?_);try(refine ar [0,2,3,15] fun F k=>?_;replace K:=k;clear k))|(refine aq (fun I=>?_) (fun I=>?_)<;>first|(exfalso;simp(disch:=omega) [H] at I;done)|(exfalso;simp at I;omega)|simp at I)|exact aB|refine aA ?_|exact aD|refine aC ?_|exact trivial)
 all_goals obtain⟨f0,f2,f3,f15⟩:=K
 refine mZ (fun m s=>m<=o.length/\(∀i,m<=i->aP o i=0)/\Kept h s.h/\s.F 3=a4 m) (fun s=>∃m,m<=o.length/\(∀i,m<=i->aP o i=0)/\(m=0\/aP o (m - 1)≠0)/\Kept h s.h/\s.F 3=a4 m) (fun _=>False) o.length ?_ ?_ ?_ (fun _ _ h=>h.elim)
 · exact ⟨Nat.le_refl _,fun i ab=>qZ ab,(Kept.mF h).bump _ (by omega),by first|rfl|exact f3⟩
 · rintro m s ag ⟨hm,ay,K,fG⟩
   replace f0:=(ag 0 rfl).trans f0
   clear f3
   have f3:=fG
   have dT:=(V.kept K).cells
   have K:=bN f0 f3;clear f0 f3
   refine bU [0,3,15] fun F k=>?_;clear K
   obtain⟨f0,f3,f15⟩:=k
   cases m with
   | zero=>
     have H:=trivial
     have K:=bI f0 f3 f15;clear f0 f3 f15
     repeat' (first|refine ak ?_|refine al ?_|((first|refine b4 ?_|refine b5 ?_|refine b6 ?_|exact ao|refine an ?_);try(refine ar [0,3,15] fun F k=>?_;replace K:=k;clear k))|(refine aq (fun I=>?_) (fun I=>?_)<;>first|(exfalso;simp(disch:=omega) [H] at I;done)|(exfalso;simp at I;omega)|simp at I)|exact aB|refine aA ?_|exact aD|refine aC ?_|exact trivial)
     all_goals obtain⟨f0,f3,f15⟩:=K
     exact ⟨0,by omega,ay,.inl rfl,K.bump _ (by omega),by first|rfl|exact f3⟩
   | succ m=>
     have go:=kf (show m<o.length by omega)
     have LA:m<o.length:=by omega
     have hw:IntKind.i64.wrap (Z (m+1) - Z 1)=Z m:=by rw[cA (by omega) (by omega)];rfl
     by_cases ae:aP o m=0
     · skip
       have H:=en dT df go LA hw ae
       have K:=bI f0 f3 f15;clear f0 f3 f15
       repeat' (first|refine ak ?_|refine al ?_|((first|refine b4 ?_|refine b5 ?_|refine b6 ?_|exact ao|refine an ?_);try(refine ar [0,3,15] fun F k=>?_;replace K:=k;clear k))|(refine aq (fun I=>?_) (fun I=>?_)<;>first|(exfalso;simp(disch:=omega) [H] at I;done)|(exfalso;simp at I;omega)|simp at I)|exact aB|refine aA ?_|exact aD|refine aC ?_|exact trivial)
       all_goals obtain⟨f0,f3,f15⟩:=K
       refine⟨m,by omega,by omega,fun i ab=>?_,K.bump _ (by omega),by first|rfl|exact f3⟩
       by_cases e:i=m
       · subst e;exact ae
       · exact ay i (by omega)
     · skip
       have H:=en dT df go LA hw ae
       have K:=bI f0 f3 f15;clear f0 f3 f15
       repeat' (first|refine ak ?_|refine al ?_|((first|refine b4 ?_|refine b5 ?_|refine b6 ?_|exact ao|refine an ?_);try(refine ar [0,3,15] fun F k=>?_;replace K:=k;clear k))|(refine aq (fun I=>?_) (fun I=>?_)<;>first|(exfalso;simp(disch:=omega) [H] at I;done)|(exfalso;simp at I;omega)|simp at I)|exact aB|refine aA ?_|exact aD|refine aC ?_|exact trivial)
       all_goals obtain⟨f0,f3,f15⟩:=K
       exact ⟨m+1,hm,ay,.inr ae,K.bump _ (by omega),by first|rfl|exact f3⟩
 · rintro s ag ⟨m,hm,ay,jv,K,fG⟩
   replace f0:=(ag 0 rfl).trans f0
   clear f3
   have f3:=fG
   have aY:=CQ aE hm ay jv
   obtain⟨v,h',au,own⟩:=Wh Y ⟨s.h.cells,s.h.shut,s.h.next+5,s.h.a7⟩ (fun j=>by show s.h.shut j=false;rw[K.shut];exact b8 j) ((V.kept K).bump (s.h.next+5) s.h.a7 (by omega)) hm aQ aG
   rw[aY] at own
   have K:=bN f0 f3;clear f0 f3
   refine bU [0,2,3] fun F k=>?_;clear K
   obtain⟨f0,f2,f3⟩:=k
   have H:=bN au hm
   have K:=bI f0 f2 f3;clear f0 f2 f3
   repeat' (first|refine ak ?_|refine al ?_|((first|refine b4 ?_|refine b5 ?_|refine b6 ?_|exact ao|refine an ?_);try(refine ar [0,2,3] fun F k=>?_;replace K:=k;clear k))|(refine aq (fun I=>?_) (fun I=>?_)<;>first|(exfalso;simp(disch:=omega) [H] at I;done)|(exfalso;simp at I;omega)|simp at I)|exact aB|refine aA ?_|exact aD|refine aC ?_|exact trivial)
   all_goals obtain⟨f0,f2,f3⟩:=K
   try refine ca ?_
   simp[jw,f2]
   exact Own.trans (K.bump _ (by omega)) own
theorem uN {h g:af} (K:Kept h g) {q:Nat} (aT:h.next<=q) (v:Option (List J)) (n:Nat) (p:Nat->Option fr) (az:g.next<=n) (aS:p=g.a7:=by rfl):Kept h ⟨aw g.cells q v,g.shut,n,p⟩:=
 ⟨Nat.le_trans K.next az,fun j aO=>by
   have:j≠q:=by omega
   simp only[aw,if_neg this];exact K.cells j aO,K.shut,by rw[aS];exact K.a7⟩
def LB (h:af) (a r w L i:Nat) (s:aW):Prop:=(∃q,h.next<=q/\∃o c,o.length=i/\Small o/\c<2^r/\val o+ah i*c=a%ah i*2^r/\s.F 5= .ref q 0 (w+i) (w+L+1)/\s.F 7=bx c/\Row s.h q (List.replicate w 0++o) (w+L+1))/\Kept h s.h
theorem LC (Y:List cR) (h:af) (b8:∀j,h.shut j=false) {a n:Nat} {e:Bool} (eC:a≠0) (bQ:(ad a).length<=100000000) (az:n<=100000000):
 ∃v h',eP G (aR Tryz.prog) jR Y (.fn 172) [cg (ad a) e,a4 n] h=some (v,h')/\Own h h' v (ad (a*2^n)):=by
 refine j0 CI ?_
 have aV:=dZ a
 have bV:ad a≠ []:=fun h=>eC (j4.1 h)
 obtain⟨w,hw⟩:∃w,w=n/32:=⟨_,rfl⟩
 obtain⟨r,aU⟩:∃r,r=n%32:=⟨_,rfl⟩
 have m2:r<32:=by omega
 have lO:ah w*(a*2^r)=a*2^n:=by
  rw[k9,Nat.mul_left_comm,<-Nat.pow_add,show 32*w+r=n by omega]
 have bt:2^r<=2147483648:=Nat.pow_le_pow_right (n:=2) (by decide) (show r<=31 by omega)
 obtain⟨L,bq⟩:∃L,L=(ad a).length:=⟨_,rfl⟩
 have bg:a<ah L:=cN.1 (by omega)
 have Dd:0<L:=by rw[bq];exact lM.2 eC
 unfold i172
 have wI:Z (w+L+1)*4<=140737488355328:=by simp only[Z];omega
 have ux:w<=w+L+1:=by omega
 have Uw:n<9223372036854775808:=by omega
 refine aX [0,1,4,5,6,7,9,12,24,25,26,27] fun F K=>?_
 obtain⟨f0,f1,f4,f5,f6,f7,f9,f12,f24,f25,f26,f27⟩:=K
 have H:=dN hw.symm aU.symm bq.symm bV wI ux Dd
 have K:=j2 f0 f1 f4 f5 f6 f7 f9 f12 f24 f25 f26 f27;clear f0 f1 f4 f5 f6 f7 f9 f12 f24 f25 f26 f27
 repeat' (first|refine ak ?_|refine al ?_|((first|refine b4 ?_|refine b5 ?_|refine b6 ?_|exact ao|refine an ?_);try(refine ar [0,1,4,5,6,7,9,12,24,25,26,27] fun F k=>?_;replace K:=k;clear k))|(refine aq (fun I=>?_) (fun I=>?_)<;>first|(exfalso;simp(disch:=omega) [H] at I;done)|(exfalso;simp at I;omega)|simp at I)|exact aB|refine aA ?_|exact aD|refine aC ?_|exact trivial)
 all_goals obtain⟨f0,f1,f4,f5,f6,f7,f9,f12,f24,f25,f26,f27⟩:=K
 refine ix L (fun i s=>LB h a r w L i s/\s.F 26=a4 i) (LB h a r w L L) (fun _=>False) ?_ ?_ ?_ (fun _ _ h=>h.elim)
 · refine⟨⟨⟨_,by omega,[],0,rfl,Small.nil,Nat.pow_pos (by decide),by simp[val,fA,Nat.mod_one],f5,f7,?_,b8 _,?_,?_⟩,(Kept.mF h).new _ _ (by omega) (by omega)⟩,f26⟩
   · rw[List.append_nil,KQ ux,<-KP];simp[aw]
   · show h.next+1+3+8<h.next+1+3+10+3+1+3;omega
   · simp;omega
 · rintro i s ab ag ⟨⟨⟨q,pP,o,c,aL,aE,pT,aF,fa,eK,R⟩,K⟩,wK⟩
   replace f0:=(ag 0 rfl).trans f0;replace f6:=(ag 6 rfl).trans f6;replace f24:=(ag 24 rfl).trans f24;replace f25:=(ag 25 rfl).trans f25
   clear f5 f7 f26
   have f5:=fa
   have f7:=eK
   have f26:=wK
   have K:=dN f0 f5 f6 f7 f24 f25 f26;clear f0 f5 f6 f7 f24 f25 f26
   refine bU [0,5,6,7,9,24,25,26,27] fun F k=>?_;clear K
   obtain⟨f0,f5,f6,f7,f9,f24,f25,f26,f27⟩:=k
   by_cases a8:i<L
   · have ae:=aV.aP i
     have jQ:=(kp (show i<(ad a).length by omega)).symm
     have st:=KT aF
     rw[<-iy] at st
     have jT:=KR (x:=aP (ad a) i) (by omega) pT
     have d':=KS (x:=aP (ad a) i) (by omega) pT
     have hlen:(List.replicate w 0++o).length=w+i:=by simp[aL]
     have ap:=R.app (by omega) (by omega) (aP (ad a) i*2^r%4294967296+c)
     rw[hlen] at ap
     have dg:min r 32=r:=by omega
     have eI:min r 64=r:=by omega
     have je:aP (ad a) i*2^r/4294967296<2^r:=by
      rw[Nat.div_lt_iff_lt_mul (by decide),Nat.mul_comm]
      exact Nat.mul_lt_mul_of_pos_left ae (Nat.pow_pos (by decide))
     have De:aP (ad a) i*2^r<18446744073709551616:=Nat.lt_of_le_of_lt (Nat.mul_le_mul (show aP (ad a) i<=4294967295 by omega) bt) (by decide)
     have sM:aP (ad a) i*2^r/4294967296<4294967296:=by omega
     have sN:=fun m p hm=>R.put (m:=m) (p:=p) (by omega) (aP (ad a) i*2^r%4294967296+c) hm
     have H:=iT a8 jQ jT d' ap dg eI De sM bq.symm
     have K:=ik f0 f5 f6 f7 f9 f24 f25 f26 f27;clear f0 f5 f6 f7 f9 f24 f25 f26 f27
     repeat' (first|refine ak ?_|refine al ?_|((first|refine b4 ?_|refine b5 ?_|refine b6 ?_|exact ao|refine an ?_);try(refine ar [0,5,6,7,9,24,25,26,27] fun F k=>?_;replace K:=k;clear k))|(refine aq (fun I=>?_) (fun I=>?_)<;>first|(exfalso;simp(disch:=omega) [H] at I;done)|(exfalso;simp at I;omega)|simp at I)|exact aB|refine aA ?_|exact aD|refine aC ?_|exact trivial)
     all_goals obtain⟨f0,f5,f6,f7,f9,f24,f25,f26,f27⟩:=K
     refine⟨⟨q,pP,o++ [aP (ad a) i*2^r%4294967296+c],_,by simp[aL],nW.2 ⟨aE,lz.2 ⟨d',Small.nil⟩⟩,je,?_,f5,f7,?_⟩,uN K pP _ _ _ (by omega)⟩
     · rw[md,aL];simpa[val] using st
     · rw[<-List.append_assoc];refine sN _ _ ?_;omega
   · have lA:i=L:=by omega
     subst lA
     have H:=a8
     have K:=ik f0 f5 f6 f7 f9 f24 f25 f26 f27;clear f0 f5 f6 f7 f9 f24 f25 f26 f27
     repeat' (first|refine ak ?_|refine al ?_|((first|refine b4 ?_|refine b5 ?_|refine b6 ?_|exact ao|refine an ?_);try(refine ar [0,5,6,7,9,24,25,26,27] fun F k=>?_;replace K:=k;clear k))|(refine aq (fun I=>?_) (fun I=>?_)<;>first|(exfalso;simp(disch:=omega) [H] at I;done)|(exfalso;simp at I;omega)|simp at I)|exact aB|refine aA ?_|exact aD|refine aC ?_|exact trivial)
     all_goals obtain⟨f0,f5,f6,f7,f9,f24,f25,f26,f27⟩:=K
     exact ⟨⟨q,pP,o,c,aL,aE,pT,aF,f5,f7,R.bump _ _ (by omega)⟩,Kept.bump K _ (by omega)⟩
 · rintro s ag ⟨⟨q,pP,o,c,aL,aE,pT,aF,fa,eK,R⟩,K⟩
   clear f5 f7 f26
   have f5:=fa
   have f7:=eK
   have hlen:(List.replicate w 0++o).length=w+L:=by simp[aL]
   have sM:c<4294967296:=by omega
   have ap:=R.app (by omega) (by omega) c
   rw[hlen] at ap
   have nI:Small ((List.replicate w 0++o)++ [c]):=nW.2 ⟨nW.2 ⟨pO w,aE⟩,lz.2 ⟨sM,Small.nil⟩⟩
   have jq:((List.replicate w 0++o)++ [c]).length=w+L+1:=by simp[aL];omega
   rw[Nat.mod_eq_of_lt bg] at aF
   have lH:val ((List.replicate w 0++o)++ [c])=a*2^n:=by
    rw[<-lO,List.append_assoc,CZ,md,aL]
    simp only[val,Nat.mul_zero,Nat.add_zero];rw[aF]
   rw[KO jq] at ap
   generalize (List.replicate w 0++o)++ [c]=xs at*
   rw[show (xs.map fun x=>J.int .u32 (Z x))=bm xs from rfl] at ap
   have k2:Kept h ⟨aw s.h.cells q (some (bm xs)),s.h.shut,s.h.next+6,s.h.a7⟩:=uN K pP _ _ _ (by omega)
   obtain⟨v,h',au,own⟩:=DT Y ⟨aw s.h.cells q (some (bm xs)),s.h.shut,s.h.next+6,s.h.a7⟩ (fun j=>by show s.h.shut j=false;rw[K.shut];exact b8 j) (q:=q) (o:=xs) ⟨by simp only[aw,if_true],R.b9,by show q<s.h.next+6;have:=R.dj;omega⟩ nI (by omega) (by omega)
   rw[lH,jq] at*
   have K:=bN f5 f7;clear f5 f7
   refine bU [4,5,7] fun F k=>?_;clear K
   obtain⟨f4,f5,f7⟩:=k
   have H:=bN ap au
   have K:=bI f4 f5 f7;clear f4 f5 f7
   repeat' (first|refine ak ?_|refine al ?_|((first|refine b4 ?_|refine b5 ?_|refine b6 ?_|exact ao|refine an ?_);try(refine ar [4,5,7] fun F k=>?_;replace K:=k;clear k))|(refine aq (fun I=>?_) (fun I=>?_)<;>first|(exfalso;simp(disch:=omega) [H] at I;done)|(exfalso;simp at I;omega)|simp at I)|exact aB|refine aA ?_|exact aD|refine aC ?_|exact trivial)
   all_goals obtain⟨f4,f5,f7⟩:=K
   try refine ca ?_
   simp[jw,f4]
   exact Own.trans k2 own
end
end
section
set_option maxHeartbeats 8000000
open Go Go.Eng Go.RowKit
theorem jS {α:Type} (f:Nat->α) (k:Nat) (a b:α):aw (aw f k a) k b=aw f k b:=by funext i;simp only[aw];split<;>rfl
abbrev dv (p:Int × Bool):J:= .agg [.bool (bn p.1),cg (ad p.1.natAbs) p.2]
def da (o:List (Int × Bool)):List J:=o.map dv
abbrev zs (o:List (Int × Bool)):List Int:=o.map Prod.fst
theorem ri (o:List (Int × Bool)):(da o).length=o.length:=by simp[da]
theorem wU {o:List (Int × Bool)} {i:Nat} (h:i<o.length):(da o)[i]? =some (dv o[i]):=by simp[da,h]
theorem sY (o:List (Int × Bool)) (i:Nat) (p:Int × Bool):(da o).set i (dv p)=da (o.set i p):=by simp[da,List.map_set]
theorem Wi (o:List (Int × Bool)):(da o).all (fun e=>e.cells.length == 2)=true:=by simp[da,J.cells]
theorem zv (o:List (Int × Bool)):(da o).all J.dJ=true:=by simp[da,J.dJ,J.cells,J.dO]
theorem oX {o:List (Int × Bool)} (h:0<o.length):sizedB 2 (some (da o))=true:=by
 simp only[sizedB,Wi,Bool.and_true,decide_eq_true_eq,ri];exact h
theorem uO (o:List (Int × Bool)):kD (da o)=(zs o).map fun z=>aH z:=by
 rw[nT,da,List.map_map,List.map_map]
 refine List.map_congr_left fun p _=>?_
 exact CR p.1 p.2
theorem LD (l:List Int):(l.map fun z=>aH z)=da (l.map fun z=>(z,false)):=by simp[da]
theorem wV (l:List Int):zs (l.map fun z=>(z,false))=l:=by rw[zs,List.map_map];exact List.map_id l
theorem wW (o:List (Int × Bool)) (i:Nat) (p:Int × Bool):zs (o.set i p)=(zs o).set i p.1:=by simp[zs,List.map_set]
theorem n8 (o:List (Int × Bool)):(zs o).length=o.length:=by simp
structure iN (h:af) (q:Nat) (o:List (Int × Bool)):Prop where
 cells:h.cells q=some (da o)
 b9:h.shut q=false
 dj:q<h.next
theorem iN.bump {h:af} {q:Nat} {o:List (Int × Bool)} (V:iN h q o) (n:Nat) (p:Nat->Option fr) (az:h.next<=n):iN ⟨h.cells,h.shut,n,p⟩ q o:=⟨V.cells,V.b9,Nat.lt_of_lt_of_le V.dj az⟩
theorem iN.kept {h h':af} {q:Nat} {o:List (Int × Bool)} (V:iN h q o) (k:Kept h h'):iN h' q o:=⟨by rw[k.cells q V.dj];exact V.cells,by rw[k.shut];exact V.b9,Nat.lt_of_lt_of_le V.dj k.next⟩
theorem iN.put {h:af} {q:Nat} {o:List (Int × Bool)} (V:iN h q o) (o':List (Int × Bool)) (n:Nat) (p:Nat->Option fr) (az:h.next<=n):iN ⟨aw h.cells q (some (da o')),h.shut,n,p⟩ q o':=
 ⟨by simp only[aw,if_true],V.b9,Nat.lt_of_lt_of_le V.dj az⟩
theorem iN.off {h:af} {p q:Nat} {o:List (Int × Bool)} (R:iN h p o) (bV:p≠q) (v:Option (List J)) (m:Nat) (kk:Nat->Option fr) (hm:h.next<=m):iN ⟨aw h.cells q v,h.shut,m,kk⟩ p o:=
 ⟨by show aw h.cells q v p=_;simp only[aw,if_neg bV];exact R.cells,R.b9,Nat.lt_of_lt_of_le R.dj hm⟩
structure nw (h h':af) (v:J) (o:List (Int × Bool)):Prop where
 kept:Kept h h'
 val:(o= []/\v= .sl [] true)\/∃r,v= .ref r 0 o.length o.length/\h.next<=r/\iN h' r o
theorem nw.trans {a b c:af} {v:J} {o:List (Int × Bool)} (k:Kept a b) (x:nw b c v o):nw a c v o:=
 ⟨k.trans x.kept,x.val.imp id fun⟨r,U,h2,aN⟩=>⟨r,U,Nat.le_trans k.next h2,aN⟩⟩
theorem nw.out {h h':af} {v:J} {o:List (Int × Bool)} (x:nw h h' v o):∃ids e,∀m p,dE ⟨h'.cells,h'.shut,m,p⟩ v=some (.sl (da o) e,ids)/\iu ⟨h'.cells,h'.shut,m,p⟩ v=some (.sl (da o) e,ids)/\jl ⟨h'.cells,h'.shut,m,p⟩ v=some (.sl (da o) e,ids):=by
 rcases x.val with⟨rfl,rfl⟩|⟨r,rfl,_,V⟩
 · exact ⟨[],true,fun m p=>⟨rfl,rfl,rfl⟩⟩
 · have e:∀m p,dE ⟨h'.cells,h'.shut,m,p⟩ (.ref r 0 o.length o.length)=some (.sl (da o) false,[r]):=fun m p=>by
    rw[fJ]
    simp only[V.cells,Nat.zero_add,ri,Nat.le_refl,zv,and_self,if_true,List.drop_zero]
    rw[List.take_of_length_le (by rw[ri];exact Nat.le_refl _)]
   exact ⟨[r],false,fun m p=>⟨e m p,e m p,e m p⟩⟩
theorem nw.outs {h h':af} {v:J} {o:List (Int × Bool)} (x:nw h h' v o):∃ids e,(∀m p,dE ⟨h'.cells,h'.shut,m,p⟩ v=some (.sl (da o) e,ids)/\iu ⟨h'.cells,h'.shut,m,p⟩ v=some (.sl (da o) e,ids)/\jl ⟨h'.cells,h'.shut,m,p⟩ v=some (.sl (da o) e,ids))/\dE h' v=some (.sl (da o) e,ids)/\iu h' v=some (.sl (da o) e,ids)/\jl h' v=some (.sl (da o) e,ids):=by
 obtain⟨ids,e,aL⟩:=x.out
 exact ⟨ids,e,aL,aL h'.next h'.a7⟩
def bc (p:List Int):Nat:=p.foldr (fun x m=>max (a' x) m) 0
theorem mh {L:Nat}:∀ {p:List Int},bc p<=L↔∀x∈p,a' x<=L
 | []=>by simp[bc]
 | x::p=>by
   have bj:=mh (L:=L) (p:=p)
   simp only[bc,List.foldr_cons,List.mem_cons,forall_eq_or_imp] at*
   rw[Nat.max_le,bj]
theorem rj:a' 0=0:=by simp[a',e_]
theorem ew (p:List Int) (i:Nat):a' (p.getD i 0)<=bc p:=by
 by_cases h:i<p.length
 · exact mh.1 (Nat.le_refl _) _ (by simp[List.getD_eq_getElem?_getD,h])
 · simp[List.getD_eq_getElem?_getD,show p.length<=i by omega,rj]
theorem uP {L:Nat} {p:List Int} (h:∀i,a' (p.getD i 0)<=L):bc p<=L:=mh.2 fun x ae=>by
 obtain⟨i,ab,rfl⟩:=List.getElem_of_mem ae
 have:=h i
 rwa [show p.getD i 0=p[i] by simp[List.getD_eq_getElem?_getD,ab]] at this
end
section
set_option maxHeartbeats 8000000
open Go Go.Eng Go.RowKit
def j5 (ys:Nat->Int × Bool) (n i:Nat):List (Int × Bool):=(List.range i).map ys++List.replicate (n - i) (0,true)
theorem DU (ys:Nat->Int × Bool) {n i:Nat} (h:i<=n):(j5 ys n i).length=n:=by simp[j5];omega
theorem DV (ys:Nat->Int × Bool) (n:Nat):j5 ys n 0=List.replicate n (0,true):=by simp[j5]
theorem DW (ys:Nat->Int × Bool) (n:Nat):j5 ys n n=(List.range n).map ys:=by simp[j5]
theorem DX (ys:Nat->Int × Bool) {n i:Nat} (h:i<n):(j5 ys n i).set i (ys i)=j5 ys n (i+1):=by
 obtain⟨m,hm⟩:∃m,n - i=m+1:=⟨n - i - 1,by omega⟩
 have LF:n -(i+1)=m:=by omega
 rw[j5,j5,hm,LF,List.range_succ,List.map_append,List.replicate_succ,List.append_assoc]
 rw[List.set_append_right _ _ (by simp)]
 simp
theorem Wj:dv (0,true)= .agg [.bool false,.sl [] true]:=by
 simp only[dv,Int.natAbs_zero,e_,List.map_nil];rfl
theorem sZ (n:Nat):List.replicate n (J.agg [.bool false,.sl [] true])=da (List.replicate n (0,true)):=by
 rw[da,List.map_replicate,Wj]
end
section
set_option maxHeartbeats 8000000
open Go Go.Eng Go.RowKit
attribute [local simp] a_.m a_.o a_.n a_.g e6 ez c2 cE c4 evalOp.eq_1 evalOp.eq_2 evalOp.eq_3 evalOp.eq_4 evalOp.eq_5 evalOp.eq_6 evalOp.eq_7 evalOp.eq_8 evalOp.eq_9 evalOp.eq_10 evalOp.eq_11 evalOp.eq_12 evalOp.eq_13 evalOp.eq_14 evalOp.eq_15 evalOp.eq_16 evalOp.eq_17 evalOp.eq_18 evalOp.eq_19 evalOp.eq_20 evalOp.eq_21 evalOp.eq_22 evalOp.eq_23 evalOp.eq_24 evalOp.eq_25 evalOp.eq_27 evalOp.eq_28 evalOp.eq_29 ie a6.ev cD aw af.new dW J.cells J.ch J.dO J.dJ gk gm gl gn gq gp hA hB hC ft fu cut partOf bound elems hE hF hG hH hI hJ hK hL hM hN hO hP fJ hQ hR hS hT hU hV hW hX hY hZ h0 h1 h3 h4 h5 h6 h7 h8 h9 h_ ia ib ic ey eh d_ e1 gr fS af.close af.set fU ig ih ij hD fT fR fy ee fH ga fh fI gb gd gf eY eZ e0 eW gu bP f_ gv f' gw gx eQ gy eR gz gA gB fl hz gC gD gE gF gG gH gI gJ gK gL gM gN gO gP gQ gR gS gT gU fx gV gW gX gY gZ g0 g1 g2 g3 g4 g5 g6 g7 g8 g9
attribute [local simp high] hv hx hy g_ g' ha hb hc hd hf hg hh hi hj hk hl hn ho hp hq hr hs ht
attribute [local simp] aQ List.getElem?_cons_zero List.getElem?_cons_succ dC cA fg Nat.mod_eq_of_lt iE iF iG iH fm iI iJ iK
section
attribute [local irreducible] br
attribute [local simp] di db cB jS
def uQ (aQ:af) (ys:Nat->Int × Bool) (n i:Nat) (s:aW):Prop:=∃q,s.F 5= .ref q 0 n n/\aQ.next<=q/\iN s.h q (j5 ys n i)/\Kept aQ s.h
theorem wX {h g:af} (b8:∀j,h.next<=j->h.shut j=false) (K:Kept h g):∀j,g.next<=j->g.shut j=false:=fun j aO=>by
 rw[K.shut];exact b8 j (Nat.le_trans K.next aO)
theorem Wk {tab:FuncId->Option (List J->Option J)} (Y:List cR) (h:af) (b8:∀j,h.next<=j->h.shut j=false) {st:FuncId} {caps:List J} (eN:tab st=none) {o:List (Int × Bool)} {e:Bool} {n:Nat} (az:o.length=n) (aG:n<=1000000) (ys:Nat->Int × Bool)
 (B:af->Prop) (bt:∀g ek,Kept g ek->B g->B ek) (aa:B h)
 (I:∀i p g,o[i]? =some p->B g->(∀j,g.next<=j->g.shut j=false)->∃ek,eP G (aR Tryz.prog) tab Y (.fn st) (a4 i::dv p::caps) g=some (dv (ys i),ek)/\Kept g ek):
 ∃v h',eP G (aR Tryz.prog) tab Y (.fn 108) [.sl (da o) e,.fn st [] caps] h=some (v,h')/\nw h h' v ((List.range n).map ys):=by
 refine j0 CG ?_
 have nx:Z n*32<=140737488355328:=by simp only[Z];omega
 have nS:=fun j (aO:h.next<=j)=>b8 j aO
 unfold i108
 refine aX [0,1,4,5,6,7,11,12,13,14] fun F K=>?_
 obtain⟨f0,f1,f4,f5,f6,f7,f11,f12,f13,f14⟩:=K
 have H:=b7 (@ri) az nx (@sZ)
 have K:=iT f0 f1 f4 f5 f6 f7 f11 f12 f13 f14;clear f0 f1 f4 f5 f6 f7 f11 f12 f13 f14
 repeat' (first|refine ak ?_|refine al ?_|((first|refine b4 ?_|refine b5 ?_|refine b6 ?_|exact ao|refine an ?_);try(refine ar [0,1,4,5,6,7,11,12,13,14] fun F k=>?_;replace K:=k;clear k))|(refine aq (fun I=>?_) (fun I=>?_)<;>first|(exfalso;simp(disch:=omega) [H] at I;done)|(exfalso;simp at I;omega)|simp at I)|exact aB|refine aA ?_|exact aD|refine aC ?_|exact trivial)
 all_goals obtain⟨f0,f1,f4,f5,f6,f7,f11,f12,f13,f14⟩:=K
 refine ix n (fun i s=>uQ h ys n i s/\s.F 13=a4 i) (uQ h ys n n) (fun _=>False) ?_ ?_ ?_ (fun _ _ h=>h.elim)
 · refine⟨⟨_,f5,by omega,?_,(Kept.mF h).new _ _ (by omega) (by omega)⟩,f13⟩
   rw[DV]
   exact ⟨by simp[aw],b8 _ (by omega),by simp⟩
 · rintro i s ab ag ⟨⟨q,fa,aT,V,K⟩,sV⟩
   replace f1:=(ag 1 rfl).trans f1;replace f11:=(ag 11 rfl).trans f11;replace f12:=(ag 12 rfl).trans f12
   clear f5 f13
   have f5:=fa
   have f13:=sV
   have K:=bH f1 f5 f11 f12 f13;clear f1 f5 f11 f12 f13
   refine bU [1,5,6,7,11,12,13,14] fun F k=>?_;clear K
   obtain⟨f1,f5,f6,f7,f11,f12,f13,f14⟩:=k
   by_cases a8:i<n
   · obtain⟨p,aS⟩:∃p,o[i]? =some p:=⟨o[i],List.getElem?_eq_getElem (by omega)⟩
     have jQ:(da o)[i]? =some (dv p):=by simp[da,aS]
     have wY:=V.dj
     have jq:=DU ys (show i<=n by omega)
     have df:=oX (o:=j5 ys n i) (by omega)
     have go:=wU (o:=j5 ys n i) (i:=i) (by omega)
     have st:=sY (j5 ys n i) i (ys i)
     rw[DX ys a8] at st
     have sK:=K.next
     have k2:Kept h ⟨aw s.h.cells (s.h.next+1+3) (some [dv p]),s.h.shut,s.h.next+1+6+8,s.h.a7⟩:=K.new _ _ (by omega) (by omega)
     obtain⟨ek,ec,n9⟩:=I i p ⟨aw s.h.cells (s.h.next+1+3) (some [dv p]),s.h.shut,s.h.next+1+6+8,s.h.a7⟩ aS (bt _ _ k2 aa) (wX b8 k2)
     have ny:iN ⟨aw s.h.cells (s.h.next+1+3) (some [dv p]),s.h.shut,s.h.next+1+6+8,s.h.a7⟩ q (j5 ys n i):=V.off (by omega) _ _ _ (by omega)
     have j6:=ny.kept n9
     have dT:=j6.cells
     have fp:=j6.b9
     have k3:=k2.trans n9
     have pY:=n9.next
     simp only at pY
     have wZ:s.h.shut (s.h.next+1+3)=false:=by rw[K.shut];exact b8 _ (by omega)
     have H:=iT a8 jQ eN ec dT fp df go st wZ
     have K:=e7 f1 f5 f6 f7 f11 f12 f13 f14;clear f1 f5 f6 f7 f11 f12 f13 f14
     repeat' (first|refine ak ?_|refine al ?_|((first|refine b4 ?_|refine b5 ?_|refine b6 ?_|exact ao|refine an ?_);try(refine ar [1,5,6,7,11,12,13,14] fun F k=>?_;replace K:=k;clear k))|(refine aq (fun I=>?_) (fun I=>?_)<;>first|(exfalso;simp(disch:=omega) [H] at I;done)|(exfalso;simp at I;omega)|simp at I)|exact aB|refine aA ?_|exact aD|refine aC ?_|exact trivial)
     all_goals obtain⟨f1,f5,f6,f7,f11,f12,f13,f14⟩:=K
     exact ⟨q,f5,aT,j6.put _ _ _ (by omega),uN k3 aT _ _ _ (by omega)⟩
   · obtain rfl:i=n:=by omega
     have H:=trivial
     have K:=e7 f1 f5 f6 f7 f11 f12 f13 f14;clear f1 f5 f6 f7 f11 f12 f13 f14
     repeat' (first|refine ak ?_|refine al ?_|((first|refine b4 ?_|refine b5 ?_|refine b6 ?_|exact ao|refine an ?_);try(refine ar [1,5,6,7,11,12,13,14] fun F k=>?_;replace K:=k;clear k))|(refine aq (fun I=>?_) (fun I=>?_)<;>first|(exfalso;simp(disch:=omega) [H] at I;done)|(exfalso;simp at I;omega)|simp at I)|exact aB|refine aA ?_|exact aD|refine aC ?_|exact trivial)
     all_goals obtain⟨f1,f5,f6,f7,f11,f12,f13,f14⟩:=K
     exact ⟨q,f5,aT,V.bump _ _ (by omega),K.bump _ (by omega)⟩
 · rintro s ag ⟨q,fa,aT,V,K⟩
   clear f5 f13
   have f5:=fa
   have K:=f5;clear f5
   refine bU [4,5] fun F k=>?_;clear K
   obtain⟨f4,f5⟩:=k
   rw[DW] at V
   have H:=trivial
   have K:=bN f4 f5;clear f4 f5
   repeat' (first|refine ak ?_|refine al ?_|((first|refine b4 ?_|refine b5 ?_|refine b6 ?_|exact ao|refine an ?_);try(refine ar [4,5] fun F k=>?_;replace K:=k;clear k))|(refine aq (fun I=>?_) (fun I=>?_)<;>first|(exfalso;simp(disch:=omega) [H] at I;done)|(exfalso;simp at I;omega)|simp at I)|exact aB|refine aA ?_|exact aD|refine aC ?_|exact trivial)
   all_goals obtain⟨f4,f5⟩:=K
   try refine ca ?_
   simp[jw,f4]
   exact ⟨K.bump _ (by omega),.inr ⟨q,by simp,aT,V.bump _ _ (by omega)⟩⟩
end
section
attribute [local irreducible] br
attribute [local simp] di db cB
theorem Wl (u v x y:Nat):((decide (u<x)=decide (v<y))->(u+x)*(v+y)+(if u<x then x - u else u - x)*(if v<y then y - v else v - y)=2*(u*v+x*y)/\(u+x)*(v+y) -(if u<x then x - u else u - x)*(if v<y then y - v else v - y)=2*(u*y+x*v))/\
 ((decide (u<x)≠decide (v<y))->(u+x)*(v+y) -(if u<x then x - u else u - x)*(if v<y then y - v else v - y)=2*(u*v+x*y)/\(u+x)*(v+y)+(if u<x then x - u else u - x)*(if v<y then y - v else v - y)=2*(u*y+x*v)):=by
 by_cases U:u<x<;>by_cases h2:v<y<;>simp only[U,h2,decide_true,decide_false,if_true,if_false,ne_eq,not_true,not_false_eq_true,false_implies,true_implies,and_true,true_and,Bool.true_eq_false,Bool.false_eq_true]
 · obtain⟨d,rfl⟩:∃d,x=u+d:=⟨x - u,by omega⟩
   obtain⟨e,rfl⟩:∃e,y=v+e:=⟨y - v,by omega⟩
   rw[Nat.add_sub_cancel_left,Nat.add_sub_cancel_left]
   exact ⟨by grind,Nat.sub_eq_of_eq_add (by grind)⟩
 · obtain⟨d,rfl⟩:∃d,x=u+d:=⟨x - u,by omega⟩
   obtain⟨e,rfl⟩:∃e,v=y+e:=⟨v - y,by omega⟩
   rw[Nat.add_sub_cancel_left,Nat.add_sub_cancel_left]
   exact ⟨Nat.sub_eq_of_eq_add (by grind),by grind⟩
 · obtain⟨d,rfl⟩:∃d,u=x+d:=⟨u - x,by omega⟩
   obtain⟨e,rfl⟩:∃e,y=v+e:=⟨y - v,by omega⟩
   rw[Nat.add_sub_cancel_left,Nat.add_sub_cancel_left]
   exact ⟨Nat.sub_eq_of_eq_add (by grind),by grind⟩
 · obtain⟨d,rfl⟩:∃d,u=x+d:=⟨u - x,by omega⟩
   obtain⟨e,rfl⟩:∃e,v=y+e:=⟨v - y,by omega⟩
   rw[Nat.add_sub_cancel_left,Nat.add_sub_cancel_left]
   exact ⟨by grind,Nat.sub_eq_of_eq_add (by grind)⟩
theorem Wm (x0 x1 x2 y0 y1 ed:Nat):∃E O bJ dL dh cY cn cd dc c7 u:Nat,
 bJ=(x0+x2+x1)*(y0+ed+y1)/\dL=mg x0 x1 x2*mg y0 y1 ed/\dh=(x0+(x1*2^1+x2*2^2))*(y0+(y1*2^1+ed*2^2))/\cY=x0*y0/\c7=x2*ed/\
 (decide (x0+x2<x1)=decide (y0+ed<y1)->bJ+dL=E/\bJ - dL=O)/\(decide (x0+x2<x1)≠decide (y0+ed<y1)->bJ - dL=E/\bJ+dL=O)/\
 E/2^1 -(cY+c7)=cd/\dh -(cY+(cd*2^2+c7*2^4))=u/\(u/2^1 - O/2^1)%3=0/\(u/2^1 - O/2^1)/3=dc/\O/2^1 - dc=cn/\
 (∀x∈ [bJ,dL,dh,E,O,cY,cn,cd,dc,c7,cY+c7,E/2^1,O/2^1,cd*2^2,c7*2^4,cd*2^2+c7*2^4,cY+(cd*2^2+c7*2^4),u,u/2^1,u/2^1 - O/2^1],x<=2*bJ+dh)/\
 cn=x0*y1+x1*y0/\cd=x0*ed+x2*y0+x1*y1/\dc=x1*ed+x2*y1:=by
 obtain⟨U,h2⟩:=Wl (x0+x2) (y0+ed) x1 y1
 obtain⟨cY,jf⟩:∃c,c=x0*y0:=⟨_,rfl⟩
 obtain⟨cn,q4⟩:∃c,c=x0*y1+x1*y0:=⟨_,rfl⟩
 obtain⟨cd,je⟩:∃c,c=x0*ed+x2*y0+x1*y1:=⟨_,rfl⟩
 obtain⟨dc,uR⟩:∃c,c=x1*ed+x2*y1:=⟨_,rfl⟩
 obtain⟨c7,s0⟩:∃c,c=x2*ed:=⟨_,rfl⟩
 have Wn:(x0+x2)*(y0+ed)+x1*y1=cY+cd+c7:=by rw[jf,je,s0];grind
 have BC:(x0+x2)*y1+x1*(y0+ed)=cn+dc:=by rw[q4,uR];grind
 have au:(x0+x2+x1)*(y0+ed+y1)=cY+cn+cd+dc+c7:=by rw[jf,q4,je,uR,s0];grind
 have ax:(x0+(x1*2^1+x2*2^2))*(y0+(y1*2^1+ed*2^2))=cY+2*cn+4*cd+8*dc+16*c7:=by rw[jf,q4,je,uR,s0];grind
 rw[Wn,BC,show (if x0+x2<x1 then x1 -(x0+x2) else x0+x2 - x1)=mg x0 x1 x2 from rfl,show (if y0+ed<y1 then y1 -(y0+ed) else y0+ed - y1)=mg y0 y1 ed from rfl,au] at U h2
 generalize mg x0 x1 x2*mg y0 y1 ed=dL at*
 have uM:dL<=cY+cn+cd+dc+c7\/cY+cn+cd+dc+c7<dL:=by omega
 refine⟨2*(cY+cd+c7),2*(cn+dc),_,dL,_,cY,cn,cd,dc,c7,2*(cn+4*dc),au.symm,rfl,ax.symm,jf,s0,U,h2,by omega,by omega,by omega,by omega,by omega,?_,q4,je,uR⟩
 have uM:dL<=cY+cn+cd+dc+c7:=by
  by_cases h:decide (x0+x2<x1)=decide (y0+ed<y1)
  · have:=U h;omega
  · have:=h2 h;omega
 intro x ae
 simp only[List.mem_cons,List.not_mem_nil,or_false] at ae
 omega
theorem Wo {E O bJ dL dh cY cn cd dc c7 u:Nat} (ay:(ad (2*bJ+dh)).length<=1000000)
 (uS:∀x∈ [bJ,dL,dh,E,O,cY,cn,cd,dc,c7,cY+c7,E/2^1,O/2^1,cd*2^2,c7*2^4,cd*2^2+c7*2^4,cY+(cd*2^2+c7*2^4),u,u/2^1,u/2^1 - O/2^1],x<=2*bJ+dh)
 (h2:E/2^1 -(cY+c7)=cd) (hu:dh -(cY+(cd*2^2+c7*2^4))=u) (DY:(u/2^1 - O/2^1)%3=0) (aN:(u/2^1 - O/2^1)/3=dc) (U:O/2^1 - dc=cn):
 ∃v1 v2 kJ v4 pZ v6 rk rl oY:Nat,jP [ai bJ,ai dL]=some (ai (bJ+dL))/\k1 [ai bJ,ai dL]=some (ai (bJ - dL))/\mf [ai E,a4 1]=some (ai v4)/\mf [ai O,a4 1]=some (ai kJ)/\jP [ai cY,ai c7]=some (ai oY)/\k1 [ai v4,ai oY]=some (ai cd)/\
  lP [ai cd,a4 2]=some (ai rk)/\lP [ai c7,a4 4]=some (ai rl)/\jP [ai rk,ai rl]=some (ai v6)/\jP [ai cY,ai v6]=some (ai pZ)/\k1 [ai dh,ai pZ]=some (ai u)/\mf [ai u,a4 1]=some (ai v2)/\k1 [ai v2,ai kJ]=some (ai v1)/\sU [ai v1]=some (ai dc)/\k1 [ai kJ,ai dc]=some (ai cn):=by
 have sz:∀x,x∈ [bJ,dL,dh,E,O,cY,cn,cd,dc,c7,cY+c7,E/2^1,O/2^1,cd*2^2,c7*2^4,cd*2^2+c7*2^4,cY+(cd*2^2+c7*2^4),u,u/2^1,u/2^1 - O/2^1]->∀n,1000000<=n->(ad x).length<=n:=fun x ae n az=>Nat.le_trans (ir (uS x ae)) (Nat.le_trans ay az)
 have cy:∀x y,(∀n,1000000<=n->(ad x).length<=n)->(∀n,1000000<=n->(ad y).length<=n)->jP [ai x,ai y]=some (ai (x+y)):=fun x y ae a2=>m5 (ae _ (by decide)) (a2 _ (by decide))
 have le:∀x y,(∀n,1000000<=n->(ad x).length<=n)->(∀n,1000000<=n->(ad y).length<=n)->k1 [ai x,ai y]=some (ai (x - y)):=fun x y ae a2=>DE (x,y) ⟨ae _ (by decide),a2 _ (by decide)⟩ (by simp)
 have rm:∀x,(∀n,1000000<=n->(ad x).length<=n)->mf [ai x,a4 1]=some (ai (x/2^1)):=fun x ae=>K1 (x,1) ⟨ae _ (by decide),show 1<=10000000000 by decide⟩ (by simp)
 have sl:∀x k,k<=4->(∀n,1000000<=n->(ad x).length<=n)->lP [ai x,a4 k]=some (ai (x*2^k)):=fun x k ag ae=>sL (ae _ (by decide)) (by omega)
 have lD:sU [ai (u/2^1 - O/2^1)]=some (ai ((u/2^1 - O/2^1)/3)):=Vz _ ⟨sz _ (by simp) _ (by decide),DY⟩ (by simp)
 rw[aN] at lD
 refine⟨u/2^1 - O/2^1,u/2^1,O/2^1,E/2^1,cY+(cd*2^2+c7*2^4),cd*2^2+c7*2^4,cd*2^2,c7*2^4,cY+c7,cy _ _ (sz _ (by simp)) (sz _ (by simp)),le _ _ (sz _ (by simp)) (sz _ (by simp)),rm _ (sz _ (by simp)),rm _ (sz _ (by simp)),cy _ _ (sz _ (by simp)) (sz _ (by simp)),?_,sl _ _ (by decide) (sz _ (by simp)),sl _ _ (by decide) (sz _ (by simp)),cy _ _ (sz _ (by simp)) (sz _ (by simp)),cy _ _ (sz _ (by simp)) (sz _ (by simp)),?_,rm _ (sz _ (by simp)),le _ _ (sz _ (by simp)) (sz _ (by simp)),lD,?_⟩
 · have:=le (E/2^1) (cY+c7) (sz _ (by simp)) (sz _ (by simp));rwa [h2] at this
 · have:=le dh (cY+(cd*2^2+c7*2^4)) (sz _ (by simp)) (sz _ (by simp));rwa [hu] at this
 · have:=le (O/2^1) dc (sz _ (by simp)) (sz _ (by simp));rwa [U] at this
def na (k:Nat) (cs:List Nat):Nat->Nat
 | 0=>0
 | i+1=>na k cs i+aP cs i*2^(32*k*i)
theorem Wp (k x0 x1 x2 y0 y1 ed:Nat):na k [x0*y0,x0*y1+x1*y0,x0*ed+x2*y0+x1*y1,x1*ed+x2*y1,x2*ed] 5=(x0+ah k*(x1+ah k*x2))*(y0+ah k*(y1+ah k*ed)):=by
 rw[k9]
 simp only[na,CL,yE]
 rw[Nat.mul_zero,Nat.pow_zero,Nat.mul_one (32*k),show 32*k*2=32*k+32*k by omega,show 32*k*3=32*k+32*k+32*k by omega,show 32*k*4=32*k+32*k+32*k+32*k by omega]
 simp only[Nat.pow_add]
 generalize 2^(32*k)=P
 grind
theorem DZ:∀z w:Nat × Nat,(fun z:Nat × Nat=>[ai z.1,ai z.2]) z=(fun z:Nat × Nat=>[ai z.1,ai z.2]) w->(fun z:Nat × Nat=>ai (z.1*z.2)) z=(fun z:Nat × Nat=>ai (z.1*z.2)) w:=fun z w h=>by simp only at h|-;first|(simp only[List.cons.injEq,J.int.injEq,J.bool.injEq,J.sl.injEq,cI,cH,cU,cV,cP,bY,cf,cO,bP,true_and,and_true] at h;simp[h];done)|(simp only[J.agg.injEq,List.cons.injEq,J.int.injEq,J.bool.injEq,J.sl.injEq,cI,cH,cU,cV,cP,bY,cf,cO,bP,true_and,and_true] at h;simp[h])
noncomputable def w0:List J->Option J:=bu (fun z:Nat × Nat=>(ad z.1).length<=500000/\(ad z.2).length<=500000) (fun z:Nat × Nat=>[ai z.1,ai z.2]) (fun z:Nat × Nat=>ai (z.1*z.2))
theorem Wq (z:Nat × Nat) (h:(ad z.1).length<=500000/\(ad z.2).length<=500000) {args:List J} (he:args.map J.loose= [ai z.1,ai z.2]):w0 args=some (ai (z.1*z.2)):=bM DZ z h he
noncomputable def n_ (N:Nat):List J->Option J:=bu (fun z:Nat × Nat=>((ad z.1).length<=500000/\(ad z.2).length<=500000)/\(max (ad z.1).length (ad z.2).length)<N) (fun z:Nat × Nat=>[ai z.1,ai z.2]) (fun z:Nat × Nat=>ai (z.1*z.2))
theorem w1 {N:Nat} (z:Nat × Nat) (h:((ad z.1).length<=500000/\(ad z.2).length<=500000)/\(max (ad z.1).length (ad z.2).length)<N) {args:List J} (he:args.map J.loose= [ai z.1,ai z.2]):n_ N args=some (ai (z.1*z.2)):=bM DZ z h he
theorem Wr (h:∀N,a3 Tryz.prog G 201 (n_ N)->a3 Tryz.prog G 201 (n_ (N+1))):a3 Tryz.prog G 201 w0:=IB DZ (fun z:Nat × Nat=>max (ad z.1).length (ad z.2).length) h
noncomputable def nb (N:Nat):FuncId->Option (List J->Option J):=cT [(201,n_ N),(202,sR),(252,rb),(256,uJ),(257,k1),(258,sU),(174,jP),(172,lP),(173,mf)]
theorem Ws {N:Nat} (h:a3 Tryz.prog G 201 (n_ N)):∀f T,nb N f=some T->a3 Tryz.prog G f T:=cX (by simp only[List.forall_mem_cons];exact ⟨h,Li,Lg,VI,DF,VA,uv,y4,Dk,fun _ h=>absurd h (by simp)⟩)
theorem LG (N:Nat):nb N 201=some (n_ N):=rfl
theorem LH (N:Nat):nb N 202=some sR:=rfl
theorem LI (N:Nat):nb N 252=some rb:=rfl
theorem LJ (N:Nat):nb N 256=some uJ:=rfl
theorem LK (N:Nat):nb N 257=some k1:=rfl
theorem LL (N:Nat):nb N 258=some sU:=rfl
theorem LM (N:Nat):nb N 174=some jP:=rfl
theorem LN (N:Nat):nb N 172=some lP:=rfl
theorem LO (N:Nat):nb N 173=some mf:=rfl
theorem LP (N:Nat):nb N 255=none:=rfl
attribute [local simp] LG LH LI LJ LK LL LM LN LO LP
theorem LQ (N:Nat) (Y:List cR) (h:af) {a k n p q:Nat} (ag:h.cells p=some [a4 k]) (az:h.cells q=some [a4 n]) (Wt:p<h.next) (pP:q<h.next) (b8:h.shut h.next=false) (bQ:(ad a).length<=500000) (oU:2*k<=n) (lQ:n<=500000):
 eP G (aR Tryz.prog) (nb N) Y (.fn 255) [ai a,.ptr p 0 0,.ptr q 0 0] h=some (.agg [ai (a%ah k),ai (a%ah (2*k)/ah k),ai (a%ah n/ah (2*k))],⟨aw (aw h.cells h.next (some [.agg [.sl [] true,.sl [] true,.sl [] true]])) h.next (some [.agg [ai (a%ah k),ai (a%ah (2*k)/ah k),ai (a%ah n/ah (2*k))]]),h.shut,h.next+16,h.a7⟩):=by
 have bS:=wN (a,0,k) ⟨by simp only;omega,Nat.zero_le _,by simp only;omega⟩ (args:=[ai a,a4 0,a4 k]) (by simp)
 have bo:=wN (a,k,2*k) ⟨by simp only;omega,by simp only;omega,by simp only;omega⟩ (args:=[ai a,a4 k,a4 (2*k)]) (by simp)
 have bB:=wN (a,2*k,n) ⟨by simp only;omega,by simp only;omega,by simp only;omega⟩ (args:=[ai a,a4 (2*k),a4 n]) (by simp)
 simp only[fA,Nat.div_one] at bS bo bB
 have b3:IntKind.i64.wrap (Z 2*Z k)=Z (2*k):=ua (by omega)
 generalize a%ah k=x0 at*
 generalize a%ah (2*k)/ah k=x1 at*
 generalize a%ah n/ah (2*k)=x2 at*
 generalize 2*k=p0 at*
 obtain⟨v,h',e,rfl,rfl⟩:=j0 (Φ:=aR Tryz.prog) (G:=G) (tab:=nb N) (Y:=Y) (h:=h) (args:=[ai a,.ptr p 0 0,.ptr q 0 0]) (R:=fun v h'=>v= .agg [ai x0,ai x1,ai x2]/\h'=⟨aw (aw h.cells h.next (some [.agg [.sl [] true,.sl [] true,.sl [] true]])) h.next (some [.agg [ai x0,ai x1,ai x2]]),h.shut,h.next+16,h.a7⟩) JD (by
  unfold i255
  refine aX [0,1,2,4] fun F K=>?_
  obtain⟨f0,f1,f2,f4⟩:=K
  have H:=e7 ag az b8 bS bo (@bB) b3 (@Nat.add_assoc)
  have K:=b7 f0 f1 f2 f4;clear f0 f1 f2 f4
  repeat' (first|refine ak ?_|refine al ?_|((first|refine b4 ?_|refine b5 ?_|refine b6 ?_|exact ao|refine an ?_);try(refine ar [0,1,2,4] fun F k=>?_;replace K:=k;clear k))|(refine aq (fun I=>?_) (fun I=>?_)<;>first|(exfalso;simp(disch:=omega) [H] at I;done)|(exfalso;simp at I;omega)|simp at I)|exact aB|refine aA ?_|exact aD|refine aC ?_|exact trivial)
  all_goals obtain⟨f0,f1,f2,f4⟩:=K
  try refine ca ?_
  simp[jw,f4])
 exact e
theorem LR {k:Nat} (u v w:Nat) (hu:(ad u).length<=k) (aF:(ad v).length<=k) (hw:(ad w).length<=k):(ad (u+w+v)).length<=k+2/\(ad (mg u v w)).length<=k+2/\(ad (u+(v*2^1+w*2^2))).length<=k+3:=by
 have aet:(ad (2^1)).length<=1:=cN.2 (by rw[q1];decide)
 have aeu:(ad (2^2)).length<=1:=cN.2 (by rw[q1];decide)
 have a1:=kq u w
 have e2:=kq (u+w) v
 have BS:=kY v (2^1)
 have aev:=kY w (2^2)
 have aew:=kq (v*2^1) (w*2^2)
 have aex:=kq u (v*2^1+w*2^2)
 have Wu:mg u v w<=u+w+v:=by unfold mg;split<;>omega
 have aey:=ir Wu
 omega
end
end
end Go.Proofs.YtemiagcencajeaaGreatDoor
