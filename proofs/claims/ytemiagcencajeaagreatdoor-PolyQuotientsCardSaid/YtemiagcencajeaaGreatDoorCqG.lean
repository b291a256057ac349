/- What the claim needs of the walks, put together by a program (shake.py). -/
import Derived.Test.YtemiagcencajeaaGreatDoorCqF
set_option maxRecDepth 100000
set_option linter.unusedSimpArgs false
set_option linter.unusedVariables false
set_option linter.unusedSectionVars false
namespace Go.Proofs.YtemiagcencajeaaGreatDoor
section
set_option maxHeartbeats 8000000
open Go Go.Eng Go.RowKit
theorem LS (a b:Int):cC (bn a != bn b) (a.natAbs*b.natAbs)=a*b:=by
 have aV:=q9 a
 have aa:=q9 b
 generalize a.natAbs=m at*
 generalize b.natAbs=k at*
 generalize bn a=s at*
 generalize bn b=t at*
 subst aV aa
 cases s<;>cases t<;>simp[cC,Int.neg_mul,Int.mul_neg]
theorem Wv (a:Int) (n:Nat):cC (bn a&&decide (n%2=1)) (a.natAbs^n)=a^n:=by
 have h:=q9 a
 generalize a.natAbs=m at*
 generalize bn a=s at*
 subst h
 cases s
 · simp only[cC,Bool.false_and,Bool.false_eq_true,if_false];rw[Int.natCast_pow]
 · have e:∀k:Nat,(-(m:Int))^(2*k)=((m^(2*k):Nat):Int):=fun k=>by
    rw[Int.pow_mul,show (-(m:Int))^2=((m^2:Nat):Int) by rw[Int.natCast_pow];grind,<-Int.natCast_pow,<-Nat.pow_mul]
   by_cases aL:n%2=1
   · obtain⟨k,rfl⟩:∃k,n=2*k+1:=⟨n/2,by omega⟩
     simp only[cC,aL,decide_true,Bool.and_self,if_true]
     rw[Int.pow_succ,e,Nat.pow_succ,Int.natCast_mul];grind
   · obtain⟨k,rfl⟩:∃k,n=2*k:=⟨n/2,by omega⟩
     simp only[cC,aL,decide_false,Bool.and_false,Bool.false_eq_true,if_false,if_true]
     rw[e]
theorem LU (a:Int) (n:Nat):cC (bn a) (a.natAbs*2^n)=a*2^n:=by
 have h:=q9 a
 generalize a.natAbs=m at*
 generalize bn a=s at*
 subst h
 cases s<;>simp[cC,Int.neg_mul]
end
section
set_option maxHeartbeats 8000000
open Go Go.Eng Go.RowKit
theorem LV {lr V ji Q P K B x out y g w2 c c' b j9 p pl:Nat} (U:ji+P*x=V+P*out) (h2:out+pl+b=x+B*j9) (aN:p=B*c'+pl) (a8:p=g*y+c) (cr:V+Q*(g*w2)=lr+P*(c+b)) (eF:P=Q*K):
 ji+Q*(g*(w2+K*y))=lr+P*B*(c'+j9):=by
 have e:P*(out+pl+b)=P*(x+B*j9):=by rw[h2]
 have ax:P*(B*c'+pl)=P*(g*y+c):=by rw[<-aN,a8]
 subst eF
 grind
theorem LW {lr V ji Q P K B x out y w2 c c':Nat} (U:ji+P*x=V+P*out) (h2:x+y+c=B*c'+out) (cr:V+P*c=lr+Q*w2) (eF:P=Q*K):
 ji+P*B*c'=lr+Q*(w2+K*y):=by
 have e:P*(x+y+c)=P*(B*c'+out):=by rw[h2]
 subst eF
 grind
structure lS (id:Nat) (h h':af):Prop where
 next:h.next<=h'.next
 cells:∀j,j<h.next->j≠id->h'.cells j=h.cells j
 shut:h'.shut=h.shut
 a7:h'.a7=h.a7
theorem lS.bump {id:Nat} {h g:af} (K:lS id h g) (n:Nat) (az:g.next<=n):lS id h ⟨g.cells,g.shut,n,g.a7⟩:=⟨Nat.le_trans K.next az,K.cells,K.shut,K.a7⟩
theorem lS.put {id:Nat} {h g:af} (K:lS id h g) (v:Option (List J)) (n:Nat) (az:g.next<=n):lS id h ⟨aw g.cells id v,g.shut,n,g.a7⟩:=
 ⟨Nat.le_trans K.next az,fun j aO bV=>by simp only[aw,if_neg bV];exact K.cells j aO bV,K.shut,K.a7⟩
theorem lS.refl (id:Nat) (h:af):lS id h h:=⟨Nat.le_refl _,fun _ _ _=>rfl,rfl,rfl⟩
end
section
set_option maxHeartbeats 8000000
open Go Go.Eng Go.RowKit
attribute [local simp] a_.m a_.o a_.n a_.g e6 ez c2 cE c4 evalOp.eq_1 evalOp.eq_2 evalOp.eq_3 evalOp.eq_4 evalOp.eq_5 evalOp.eq_6 evalOp.eq_7 evalOp.eq_8 evalOp.eq_9 evalOp.eq_10 evalOp.eq_11 evalOp.eq_12 evalOp.eq_13 evalOp.eq_14 evalOp.eq_15 evalOp.eq_16 evalOp.eq_17 evalOp.eq_18 evalOp.eq_19 evalOp.eq_20 evalOp.eq_21 evalOp.eq_22 evalOp.eq_23 evalOp.eq_24 evalOp.eq_25 evalOp.eq_27 evalOp.eq_28 evalOp.eq_29 ie a6.ev cD aw af.new dW J.cells J.ch J.dO J.dJ gk gm gl gn gq gp hA hB hC ft fu cut partOf bound elems hE hF hG hH hI hJ hK hL hM hN hO hP fJ hQ hR hS hT hU hV hW hX hY hZ h0 h1 h3 h4 h5 h6 h7 h8 h9 h_ ia ib ic ey eh d_ e1 gr fS af.close af.set fU ig ih ij hD fT fR fy ee fH ga fh fI gb gd gf eY eZ e0 eW gu bP f_ gv f' gw gx eQ gy eR gz gA gB fl hz gC gD gE gF gG gH gI gJ gK gL gM gN gO gP gQ gR gS gT gU fx gV gW gX gY gZ g0 g1 g2 g3 g4 g5 g6 g7 g8 g9
attribute [local simp high] hv hx hy g_ g' ha hb hc hd hf hg hh hi hj hk hl hn ho hp hq hr hs ht
attribute [local simp] aQ List.getElem?_cons_zero List.getElem?_cons_succ dC cA fg Nat.mod_eq_of_lt iE iF iG iH fm iI iJ iK
section
attribute [local irreducible] br
attribute [local simp] di db cB LG LH LI LJ LK LL LM LN LO LP
def zw (k:Nat) (cs:List Nat) (i:Nat) (s:aW):Prop:=∃e,s.F 29=cg (ad (na k cs i)) e
theorem Ww {k:Nat} {cs:List Nat} (aG:cs.length=5) (ag:k<=200000) (aE:∀x∈cs,(ad x).length<=1000000):∀i,i<5->(∀e,jP [cg (ad (na k cs i)) e,ai (aP cs i*2^(32*k*i))]=some (ai (na k cs (i+1))))/\lP [ai (aP cs i),a4 (32*k*i)]=some (ai (aP cs i*2^(32*k*i))):=by
 have aa:∀i,i<=5->(ad (na k cs i)).length<=i*4000000:=by
  intro i
  induction i with
  | zero=>intro _;simp[na,e_]
  | succ i bj=>
    intro ab
    have U:=bj (by omega)
    have h2:=aE _ (CM (l:=cs) (i:=i) (by omega))
    have aN:=kY (aP cs i) (2^(32*k*i))
    have a8:(ad (2^(32*k*i))).length<=k*i+1:=cN.2 (by rw[show 32*k*i=32*(k*i) by rw[Nat.mul_assoc],<-k9,et];have:=jO (k*i);omega)
    have cr:=kq (na k cs i) (aP cs i*2^(32*k*i))
    have eF:k*i<=200000*5:=Nat.mul_le_mul ag (by omega)
    show (ad (na k cs i+aP cs i*2^(32*k*i))).length<=_
    omega
 intro i ab
 have U:=aa i (by omega)
 have h2:=aE _ (CM (l:=cs) (i:=i) (by omega))
 have aN:=kY (aP cs i) (2^(32*k*i))
 have a8:(ad (2^(32*k*i))).length<=k*i+1:=cN.2 (by rw[show 32*k*i=32*(k*i) by rw[Nat.mul_assoc],<-k9,et];have:=jO (k*i);omega)
 have eF:k*i<=200000*5:=Nat.mul_le_mul ag (by omega)
 have r':32*k*i=32*(k*i):=Nat.mul_assoc ..
 exact ⟨fun e=>m5 (by omega) (by omega),sL (by omega) (by omega)⟩
theorem Wx:a3 Tryz.prog G 201 w0:=by
 refine Wr fun N bj=>?_
 refine bK mixed (Ws bj) Jp fun z ay=>?_
 obtain⟨a,b⟩:=z
 obtain⟨⟨bQ,bm⟩,iD⟩:=ay
 simp only at bQ bm iD|-
 obtain⟨L,bq⟩:∃L,L=(ad a).length:=⟨_,rfl⟩
 obtain⟨M,lu⟩:∃M,M=(ad b).length:=⟨_,rfl⟩
 obtain⟨n,az⟩:∃n,n=max L M:=⟨_,rfl⟩
 have dg:=uh L M
 have eI:=ui L M
 rw[<-az] at dg
 rw[<-bq] at iD
 rw[<-lu] at iD
 have bg:a<ah n:=cN.1 (by omega)
 have bt:b<ah n:=cN.1 (by omega)
 by_cases py:min L M<7
 · have t:=Lh (a,b) ⟨by simp only;omega,by simp only;omega⟩ (args:=[ai a,ai b]) (by simp)
   simp only at t
   generalize a*b=c at*
   unfold i201
   refine aX [0,1,4,5,6,7,8,9,10,11,12,13,14,15,16,17,18,19,20,21,22,23,24,25,26,27,28,29,30,31,42,97,131,132,133,134] fun F K=>?_
   obtain⟨f0,f1,f4,f5,f6,f7,f8,f9,f10,f11,f12,f13,f14,f15,f16,f17,f18,f19,f20,f21,f22,f23,f24,f25,f26,f27,f28,f29,f30,f31,f42,f97,f131,f132,f133,f134⟩:=K
   have H:=en bq.symm lu.symm dg eI py t
   have K:=CC f0 f1 f4 f5 f6 f7 f8 f9 f10 f11 f12 f13 f14 f15 f16 f17 f18 f19 f20 f21 f22 f23 f24 f25 f26 f27 f28 f29 f30 f31 f42 f97 f131 f132 f133 f134;clear f0 f1 f4 f5 f6 f7 f8 f9 f10 f11 f12 f13 f14 f15 f16 f17 f18 f19 f20 f21 f22 f23 f24 f25 f26 f27 f28 f29 f30 f31 f42 f97 f131 f132 f133 f134
   repeat' (first|refine ak ?_|refine al ?_|((first|refine b4 ?_|refine b5 ?_|refine b6 ?_|exact ao|refine an ?_);try(refine ar [0,1,4,5,6,7,8,9,10,11,12,13,14,15,16,17,18,19,20,21,22,23,24,25,26,27,28,29,30,31,42,97,131,132,133,134] fun F k=>?_;replace K:=k;clear k))|(refine aq (fun I=>?_) (fun I=>?_)<;>first|(exfalso;simp(disch:=omega) [H] at I;done)|(exfalso;simp at I;omega)|simp at I)|exact aB|refine aA ?_|exact aD|refine aC ?_|exact trivial)
   all_goals obtain⟨f0,f1,f4,f5,f6,f7,f8,f9,f10,f11,f12,f13,f14,f15,f16,f17,f18,f19,f20,f21,f22,f23,f24,f25,f26,f27,f28,f29,f30,f31,f42,f97,f131,f132,f133,f134⟩:=K
 · obtain⟨k,ag⟩:∃k,k=(n+2)/3:=⟨_,rfl⟩
   have oU:k+1<n:=by omega
   have jG:k<=200000:=by omega
   have zx:∀x,x<ah n->x=x%ah k+ah k*(x%ah (2*k)/ah k+ah k*(x%ah n/ah (2*k)))/\(ad (x%ah k)).length<=k/\(ad (x%ah (2*k)/ah k)).length<=k/\(ad (x%ah n/ah (2*k))).length<=k:=fun x ae=>by
    rw[Nat.mod_eq_of_lt ae]
    refine⟨?_,cN.2 (Nat.mod_lt _ (jO k)),cN.2 ?_,cN.2 ?_⟩
    · rw[show 2*k=k+k by omega,iU,<-Nat.div_div_eq_div_mul,Nat.mod_mul_right_div_self,Nat.mod_add_div,Nat.mod_add_div]
    · rw[show 2*k=k+k by omega,iU,Nat.mod_mul_right_div_self];exact Nat.mod_lt _ (jO k)
    · rw[Nat.div_lt_iff_lt_mul (jO _),<-iU]
      exact Nat.lt_of_lt_of_le ae (mb (by omega))
   have zy:=fun(h:af) p q U h2 aN a8 cr=>LQ N [] h (a:=a) (k:=k) (n:=n) (p:=p) (q:=q) U h2 aN a8 cr (by omega) (by omega) (by omega)
   have zz:=fun(h:af) p q U h2 aN a8 cr=>LQ N [] h (a:=b) (k:=k) (n:=n) (p:=p) (q:=q) U h2 aN a8 cr (by omega) (by omega) (by omega)
   have main:∃x0 x1 x2 y0 y1 ed a1 am e2 b1 D0 ej bJ dL dh cY cn cd dc c7:Nat,∃w3 w4:Bool,a%ah k=x0/\a%ah (2*k)/ah k=x1/\a%ah n/ah (2*k)=x2/\b%ah k=y0/\b%ah (2*k)/ah k=y1/\b%ah n/ah (2*k)=ed/\
    uJ [.agg [ai x0,ai x1,ai x2]]=some (.bD [ai a1,ai am,ai e2,.bool w3])/\uJ [.agg [ai y0,ai y1,ai ed]]=some (.bD [ai b1,ai D0,ai ej,.bool w4])/\
    n_ N [ai x0,ai y0]=some (ai cY)/\n_ N [ai x2,ai ed]=some (ai c7)/\n_ N [ai a1,ai b1]=some (ai bJ)/\n_ N [ai am,ai D0]=some (ai dL)/\n_ N [ai e2,ai ej]=some (ai dh)/\
    (∃E O u v1 v2 kJ v4 pZ v6 rk rl oY b3 cF:Nat,jP [ai bJ,ai dL]=some (ai b3)/\k1 [ai bJ,ai dL]=some (ai cF)/\((w3=w4/\b3=E/\cF=O)\/(w3≠w4/\cF=E/\b3=O))/\mf [ai E,a4 1]=some (ai v4)/\mf [ai O,a4 1]=some (ai kJ)/\jP [ai cY,ai c7]=some (ai oY)/\k1 [ai v4,ai oY]=some (ai cd)/\
      lP [ai cd,a4 2]=some (ai rk)/\lP [ai c7,a4 4]=some (ai rl)/\jP [ai rk,ai rl]=some (ai v6)/\jP [ai cY,ai v6]=some (ai pZ)/\k1 [ai dh,ai pZ]=some (ai u)/\mf [ai u,a4 1]=some (ai v2)/\k1 [ai v2,ai kJ]=some (ai v1)/\sU [ai v1]=some (ai dc)/\k1 [ai kJ,ai dc]=some (ai cn))/\
    na k [cY,cn,cd,dc,c7] 5=a*b/\∀x∈ [cY,cn,cd,dc,c7],(ad x).length<=1000000:=by
    obtain⟨w5,Wy,Wz,WA⟩:=zx a bg
    obtain⟨jj,WB,WC,WD⟩:=zx b bt
    clear zx zy zz dg eI bq lu
    generalize a%ah k=x0 at*
    generalize a%ah (2*k)/ah k=x1 at*
    generalize a%ah n/ah (2*k)=x2 at*
    generalize b%ah k=y0 at*
    generalize b%ah (2*k)/ah k=y1 at*
    generalize b%ah n/ah (2*k)=ed at*
    have fin:=Wp k x0 x1 x2 y0 y1 ed
    rw[<-w5,<-jj] at fin
    obtain⟨E,O,bJ,dL,dh,cY,cn,cd,dc,c7,u,yT,uM,m2,jf,s0,aE,bk,h2,hu,DY,aN,U,uS,bL,cj,dd⟩:=Wm x0 x1 x2 y0 y1 ed
    obtain⟨Lj,aez,aeA⟩:=LR x0 x1 x2 Wy Wz WA
    obtain⟨Lk,aeB,aeC⟩:=LR y0 y1 ed WB WC WD
    have b1:=kY (x0+x2+x1) (y0+ed+y1)
    have kQ:=kY (x0+(x1*2^1+x2*2^2)) (y0+(y1*2^1+ed*2^2))
    rw[<-yT] at b1
    rw[<-m2] at kQ
    have two:(ad 2).length<=1:=cN.2 (by rw[q1];decide)
    have bT:=kY 2 bJ
    have cL:=kq (2*bJ) dh
    have ay:(ad (2*bJ+dh)).length<=1000000:=by omega
    rw[<-jf,<-bL,<-cj,<-dd,<-s0] at fin
    obtain⟨v1,v2,kJ,v4,pZ,v6,rk,rl,oY,dp,dr,gi⟩:=Wo ay uS h2 hu DY aN U
    refine⟨x0,x1,x2,y0,y1,ed,_,_,_,_,_,_,bJ,dL,dh,cY,cn,cd,dc,c7,_,_,rfl,rfl,rfl,rfl,rfl,rfl,
     Lo (x0,x1,x2) ⟨by show (ad x0).length<=_;omega,by show (ad x1).length<=_;omega,by show (ad x2).length<=_;omega⟩ (by simp),Lo (y0,y1,ed) ⟨by show (ad y0).length<=_;omega,by show (ad y1).length<=_;omega,by show (ad ed).length<=_;omega⟩ (by simp),?_,?_,?_,?_,?_,⟨E,O,u,v1,v2,kJ,v4,pZ,v6,rk,rl,oY,_,_,dp,dr,?_,gi⟩,fin,fun x ae=>?_⟩
    · rw[jf];exact w1 (x0,y0) ⟨⟨by simp only;omega,by simp only;omega⟩,by simp only;omega⟩ (by simp)
    · rw[s0];exact w1 (x2,ed) ⟨⟨by simp only;omega,by simp only;omega⟩,by simp only;omega⟩ (by simp)
    · rw[yT];exact w1 (x0+x2+x1,y0+ed+y1) ⟨⟨by simp only;omega,by simp only;omega⟩,by simp only;omega⟩ (by simp)
    · rw[uM];exact w1 (mg x0 x1 x2,mg y0 y1 ed) ⟨⟨by simp only;omega,by simp only;omega⟩,by simp only;omega⟩ (by simp)
    · rw[m2];exact w1 (x0+(x1*2^1+x2*2^2),y0+(y1*2^1+ed*2^2)) ⟨⟨by simp only;omega,by simp only;omega⟩,by simp only;omega⟩ (by simp)
    · by_cases h:decide (x0+x2<x1)=decide (y0+ed<y1)
      · exact .inl ⟨h,aE h⟩
      · exact .inr ⟨h,bk h⟩
    · have D1:x<=2*bJ+dh:=uS x (by simp only[List.mem_cons,List.not_mem_nil,or_false] at ae|-;rcases ae with rfl|rfl|rfl|rfl|rfl<;>simp)
      exact Nat.le_trans (ir D1) ay
   obtain⟨x0,x1,x2,y0,y1,ed,a1,am,e2,b1,D0,ej,bJ,dL,dh,cY,cn,cd,dc,c7,w3,w4,bO,au,ax,a9,bX,fc,LX,LY,t0,t4,t1,t2,t3,⟨E,O,u,v1,v2,kJ,v4,pZ,v6,rk,rl,oY,b3,cF,s1,s2,WE,kr,lC,uH,uI,n1,n6,LZ,L0,yZ,wH,L1,L2,L3⟩,fin,df⟩:=main
   have kU:=Ww (k:=k) (cs:=[cY,cn,cd,dc,c7]) rfl jG df
   rw[bO,au,ax] at zy
   rw[a9,bX,fc] at zz
   clear bO au ax a9 bX fc zx bg bt df
   have e5:(n+2)/3=k:=ag.symm
   have L4:∀i,i<5->IntKind.i64.wrap (Z 32*Z k)=Z (32*k)/\IntKind.i64.wrap (Z (32*k)*Z i)=Z (32*k*i):=fun i ab=>⟨ua (by omega),ua (by have:32*k*i<=32*200000*5:=Nat.mul_le_mul (Nat.mul_le_mul_left 32 jG) (by omega);omega)⟩
   have D2:=zy ⟨aw (aw (aw (aw (fun _=>none) 6 (some [a4 0])) 6 (some [a4 n])) 17 (some [a4 0])) 17 (some [a4 k]),fun _=>false,31,fun _=>none⟩ 17 6 (by simp[aw]) (by simp[aw]) (by show 17<31;decide) (by show 6<31;decide) rfl
   have D3:=zz ⟨aw (aw (aw (aw (aw (aw (fun _=>none) 6 (some [a4 0])) 6 (some [a4 n])) 17 (some [a4 0])) 17 (some [a4 k])) 31 (some [.agg [.sl [] true,.sl [] true,.sl [] true]])) 31 (some [.agg [ai x0,ai x1,ai x2]]),fun _=>false,47,fun _=>none⟩ 17 6 (by simp[aw]) (by simp[aw]) (by show 17<47;decide) (by show 6<47;decide) rfl
   dsimp only at D2 D3
   clear zy zz
   rw[<-fin]
   unfold i201
   rcases WE with⟨U,h2,aN⟩|⟨U,h2,aN⟩
   · subst U h2 aN
     refine aX [0,1,4,5,6,7,8,9,10,11,12,13,14,15,16,17,18,19,20,21,22,23,24,25,26,27,28,29,30,31,42,97,131,132,133,134] fun F K=>?_
     obtain⟨f0,f1,f4,f5,f6,f7,f8,f9,f10,f11,f12,f13,f14,f15,f16,f17,f18,f19,f20,f21,f22,f23,f24,f25,f26,f27,f28,f29,f30,f31,f42,f97,f131,f132,f133,f134⟩:=K
     have H:=RW bq.symm lu.symm dg eI py e5 D2 D3 LX LY t0 t4 t1 t2 t3 s1 s2 kr lC uH uI n1 n6 LZ L0 yZ wH L1 L2 L3 (@DI) (@DJ) (@DK)
     have K:=CC f0 f1 f4 f5 f6 f7 f8 f9 f10 f11 f12 f13 f14 f15 f16 f17 f18 f19 f20 f21 f22 f23 f24 f25 f26 f27 f28 f29 f30 f31 f42 f97 f131 f132 f133 f134;clear f0 f1 f4 f5 f6 f7 f8 f9 f10 f11 f12 f13 f14 f15 f16 f17 f18 f19 f20 f21 f22 f23 f24 f25 f26 f27 f28 f29 f30 f31 f42 f97 f131 f132 f133 f134
     repeat' (first|refine ak ?_|refine al ?_|((first|refine b4 ?_|refine b5 ?_|refine b6 ?_|exact ao|refine an ?_);try(refine ar [0,1,4,5,6,7,8,9,10,11,12,13,14,15,16,17,18,19,20,21,22,23,24,25,26,27,28,29,30,31,42,97,131,132,133,134] fun F k=>?_;replace K:=k;clear k))|(refine aq (fun I=>?_) (fun I=>?_)<;>first|(exfalso;simp(disch:=omega) [H] at I;done)|(exfalso;simp at I;omega)|simp at I)|exact aB|refine aA ?_|exact aD|refine aC ?_|exact trivial)
     all_goals obtain⟨f0,f1,f4,f5,f6,f7,f8,f9,f10,f11,f12,f13,f14,f15,f16,f17,f18,f19,f20,f21,f22,f23,f24,f25,f26,f27,f28,f29,f30,f31,f42,f97,f131,f132,f133,f134⟩:=K
     generalize D4: [ai cY,ai cn,ai cd,ai dc,ai c7]=D5 at*
     have vX:∀i,i<5->D5[i]? =some (ai (aP [cY,cn,cd,dc,c7] i)):=fun i ab=>by
      rw[<-D4]
      rcases show i=0\/i=1\/i=2\/i=3\/i=4 by omega with rfl|rfl|rfl|rfl|rfl<;>rfl
     generalize pB: [cY,cn,cd,dc,c7]=cs at*
     refine ix 5 (fun i s=>zw k cs i s/\s.F 133=a4 i/\s.h.cells 17=some [a4 k]) (zw k cs 5) (fun _=>False) ?_ ?_ ?_ (fun _ _ h=>h.elim)
     · exact ⟨⟨true,by rw[na,e_];exact f29⟩,f133,by simp[aw]⟩
     · rintro i s ab s3 ⟨⟨e,s4⟩,D6,D7⟩
       have ag:=s3
       replace f6:=(ag 6 rfl).trans f6;replace f131:=(ag 131 rfl).trans f131;replace f132:=(ag 132 rfl).trans f132
       clear f29 f133 s3
       have f29:=s4
       have f133:=D6
       have K:=bH f6 f29 f131 f132 f133;clear f6 f29 f131 f132 f133
       refine bU [6,29,30,31,131,132,133,134] fun F k=>?_;clear K
       obtain⟨f6,f29,f30,f31,f131,f132,f133,f134⟩:=k
       by_cases cr:i<5
       · have s5:(Z i<(5:Int))=True:=eq_true (by simp only[Z];omega)
         have ge:=vX i cr
         obtain⟨cp,ea⟩:=kU i cr
         have cp:=cp e
         obtain⟨lE,lb⟩:=L4 i cr
         have D8:IntKind.i64.wrap (Z i+Z 1)=Z (i+1):=dC (by omega)
         generalize aP cs i=ci at*
         generalize 32*k*i=D9 at*
         generalize ci*2^D9=WG at*
         have H:=ik s5 ge cp ea lE lb D7 cr D8
         have K:=e7 f6 f29 f30 f31 f131 f132 f133 f134;clear f6 f29 f30 f31 f131 f132 f133 f134
         repeat' (first|refine ak ?_|refine al ?_|((first|refine b4 ?_|refine b5 ?_|refine b6 ?_|exact ao|refine an ?_);try(refine ar [6,29,30,31,131,132,133,134] fun F k=>?_;replace K:=k;clear k))|(refine aq (fun I=>?_) (fun I=>?_)<;>first|(exfalso;simp(disch:=omega) [H] at I;done)|(exfalso;simp at I;omega)|simp at I)|exact aB|refine aA ?_|exact aD|refine aC ?_|exact trivial)
         all_goals obtain⟨f6,f29,f30,f31,f131,f132,f133,f134⟩:=K
         exact ⟨false,f29⟩
       · have s5:(Z i<(5:Int))=False:=eq_false (by simp only[Z];omega)
         obtain rfl:i=5:=by omega
         have H:=s5
         have K:=e7 f6 f29 f30 f31 f131 f132 f133 f134;clear f6 f29 f30 f31 f131 f132 f133 f134
         repeat' (first|refine ak ?_|refine al ?_|((first|refine b4 ?_|refine b5 ?_|refine b6 ?_|exact ao|refine an ?_);try(refine ar [6,29,30,31,131,132,133,134] fun F k=>?_;replace K:=k;clear k))|(refine aq (fun I=>?_) (fun I=>?_)<;>first|(exfalso;simp(disch:=omega) [H] at I;done)|(exfalso;simp at I;omega)|simp at I)|exact aB|refine aA ?_|exact aD|refine aC ?_|exact trivial)
         all_goals obtain⟨f6,f29,f30,f31,f131,f132,f133,f134⟩:=K
         exact ⟨e,f29⟩
     · rintro s s3 ⟨e,s4⟩
       clear f29 f133
       have f29:=s4
       have K:=f29;clear f29
       refine bU [4,29] fun F k=>?_;clear K
       obtain⟨f4,f29⟩:=k
       have H:=trivial
       have K:=bN f4 f29;clear f4 f29
       repeat' (first|refine ak ?_|refine al ?_|((first|refine b4 ?_|refine b5 ?_|refine b6 ?_|exact ao|refine an ?_);try(refine ar [4,29] fun F k=>?_;replace K:=k;clear k))|(refine aq (fun I=>?_) (fun I=>?_)<;>first|(exfalso;simp(disch:=omega) [H] at I;done)|(exfalso;simp at I;omega)|simp at I)|exact aB|refine aA ?_|exact aD|refine aC ?_|exact trivial)
       all_goals obtain⟨f4,f29⟩:=K
   · subst h2 aN
     have aa:(w3 == w4)=false:=by simpa using U
     refine aX [0,1,4,5,6,7,8,9,10,11,12,13,14,15,16,17,18,19,20,21,22,23,24,25,26,27,28,29,30,31,42,97,131,132,133,134] fun F K=>?_
     obtain⟨f0,f1,f4,f5,f6,f7,f8,f9,f10,f11,f12,f13,f14,f15,f16,f17,f18,f19,f20,f21,f22,f23,f24,f25,f26,f27,f28,f29,f30,f31,f42,f97,f131,f132,f133,f134⟩:=K
     have H:=yA bq.symm lu.symm dg eI py aa e5 D2 D3 LX LY t0 t4 t1 t2 t3 s1 s2 kr lC uH uI n1 n6 LZ L0 yZ wH L1 L2 L3 (@DI) (@DJ) (@DK)
     have K:=CC f0 f1 f4 f5 f6 f7 f8 f9 f10 f11 f12 f13 f14 f15 f16 f17 f18 f19 f20 f21 f22 f23 f24 f25 f26 f27 f28 f29 f30 f31 f42 f97 f131 f132 f133 f134;clear f0 f1 f4 f5 f6 f7 f8 f9 f10 f11 f12 f13 f14 f15 f16 f17 f18 f19 f20 f21 f22 f23 f24 f25 f26 f27 f28 f29 f30 f31 f42 f97 f131 f132 f133 f134
     repeat' (first|refine ak ?_|refine al ?_|((first|refine b4 ?_|refine b5 ?_|refine b6 ?_|exact ao|refine an ?_);try(refine ar [0,1,4,5,6,7,8,9,10,11,12,13,14,15,16,17,18,19,20,21,22,23,24,25,26,27,28,29,30,31,42,97,131,132,133,134] fun F k=>?_;replace K:=k;clear k))|(refine aq (fun I=>?_) (fun I=>?_)<;>first|(exfalso;simp(disch:=omega) [H] at I;done)|(exfalso;simp at I;omega)|simp at I)|exact aB|refine aA ?_|exact aD|refine aC ?_|exact trivial)
     all_goals obtain⟨f0,f1,f4,f5,f6,f7,f8,f9,f10,f11,f12,f13,f14,f15,f16,f17,f18,f19,f20,f21,f22,f23,f24,f25,f26,f27,f28,f29,f30,f31,f42,f97,f131,f132,f133,f134⟩:=K
     generalize D4: [ai cY,ai cn,ai cd,ai dc,ai c7]=D5 at*
     have vX:∀i,i<5->D5[i]? =some (ai (aP [cY,cn,cd,dc,c7] i)):=fun i ab=>by
      rw[<-D4]
      rcases show i=0\/i=1\/i=2\/i=3\/i=4 by omega with rfl|rfl|rfl|rfl|rfl<;>rfl
     generalize pB: [cY,cn,cd,dc,c7]=cs at*
     refine ix 5 (fun i s=>zw k cs i s/\s.F 133=a4 i/\s.h.cells 17=some [a4 k]) (zw k cs 5) (fun _=>False) ?_ ?_ ?_ (fun _ _ h=>h.elim)
     · exact ⟨⟨true,by rw[na,e_];exact f29⟩,f133,by simp[aw]⟩
     · rintro i s ab s3 ⟨⟨e,s4⟩,D6,D7⟩
       have ag:=s3
       replace f6:=(ag 6 rfl).trans f6;replace f131:=(ag 131 rfl).trans f131;replace f132:=(ag 132 rfl).trans f132
       clear f29 f133 s3
       have f29:=s4
       have f133:=D6
       have K:=bH f6 f29 f131 f132 f133;clear f6 f29 f131 f132 f133
       refine bU [6,29,30,31,131,132,133,134] fun F k=>?_;clear K
       obtain⟨f6,f29,f30,f31,f131,f132,f133,f134⟩:=k
       by_cases cr:i<5
       · have s5:(Z i<(5:Int))=True:=eq_true (by simp only[Z];omega)
         have ge:=vX i cr
         obtain⟨cp,ea⟩:=kU i cr
         have cp:=cp e
         obtain⟨lE,lb⟩:=L4 i cr
         have D8:IntKind.i64.wrap (Z i+Z 1)=Z (i+1):=dC (by omega)
         generalize aP cs i=ci at*
         generalize 32*k*i=D9 at*
         generalize ci*2^D9=WG at*
         have H:=ik s5 ge cp ea lE lb D7 cr D8
         have K:=e7 f6 f29 f30 f31 f131 f132 f133 f134;clear f6 f29 f30 f31 f131 f132 f133 f134
         repeat' (first|refine ak ?_|refine al ?_|((first|refine b4 ?_|refine b5 ?_|refine b6 ?_|exact ao|refine an ?_);try(refine ar [6,29,30,31,131,132,133,134] fun F k=>?_;replace K:=k;clear k))|(refine aq (fun I=>?_) (fun I=>?_)<;>first|(exfalso;simp(disch:=omega) [H] at I;done)|(exfalso;simp at I;omega)|simp at I)|exact aB|refine aA ?_|exact aD|refine aC ?_|exact trivial)
         all_goals obtain⟨f6,f29,f30,f31,f131,f132,f133,f134⟩:=K
         exact ⟨false,f29⟩
       · have s5:(Z i<(5:Int))=False:=eq_false (by simp only[Z];omega)
         obtain rfl:i=5:=by omega
         have H:=s5
         have K:=e7 f6 f29 f30 f31 f131 f132 f133 f134;clear f6 f29 f30 f31 f131 f132 f133 f134
         repeat' (first|refine ak ?_|refine al ?_|((first|refine b4 ?_|refine b5 ?_|refine b6 ?_|exact ao|refine an ?_);try(refine ar [6,29,30,31,131,132,133,134] fun F k=>?_;replace K:=k;clear k))|(refine aq (fun I=>?_) (fun I=>?_)<;>first|(exfalso;simp(disch:=omega) [H] at I;done)|(exfalso;simp at I;omega)|simp at I)|exact aB|refine aA ?_|exact aD|refine aC ?_|exact trivial)
         all_goals obtain⟨f6,f29,f30,f31,f131,f132,f133,f134⟩:=K
         exact ⟨e,f29⟩
     · rintro s s3 ⟨e,s4⟩
       clear f29 f133
       have f29:=s4
       have K:=f29;clear f29
       refine bU [4,29] fun F k=>?_;clear K
       obtain⟨f4,f29⟩:=k
       have H:=trivial
       have K:=bN f4 f29;clear f4 f29
       repeat' (first|refine ak ?_|refine al ?_|((first|refine b4 ?_|refine b5 ?_|refine b6 ?_|exact ao|refine an ?_);try(refine ar [4,29] fun F k=>?_;replace K:=k;clear k))|(refine aq (fun I=>?_) (fun I=>?_)<;>first|(exfalso;simp(disch:=omega) [H] at I;done)|(exfalso;simp at I;omega)|simp at I)|exact aB|refine aA ?_|exact aD|refine aC ?_|exact trivial)
       all_goals obtain⟨f4,f29⟩:=K
end
section
attribute [local irreducible] br
attribute [local simp] di db cB
noncomputable def w6:FuncId->Option (List J->Option J):=cT [(203,uE),(202,sR),(201,w0)]
theorem WH:∀f T,w6 f=some T->a3 Tryz.prog G f T:=cX (by simp only[List.forall_mem_cons];exact ⟨Le,Li,Wx,fun _ h=>absurd h (by simp)⟩)
theorem WI:w6 203=some uE:=rfl
theorem WJ:w6 202=some sR:=rfl
theorem WK:w6 201=some w0:=rfl
theorem WL:w6 200=none:=rfl
attribute [local simp] WI WJ WK WL
noncomputable def uT:List J->Option J:=bu (fun z:Nat × Nat=>(ad z.1).length<=500000/\(ad z.2).length<=500000/\min (ad z.1).length (ad z.2).length<48) (fun z=>[ai z.1,ai z.2]) (fun z=>ai (z.1*z.2))
theorem zA (z:Nat × Nat) (h:(ad z.1).length<=500000/\(ad z.2).length<=500000/\min (ad z.1).length (ad z.2).length<48) {args:List J} (he:args.map J.loose= [ai z.1,ai z.2]):uT args=some (ai (z.1*z.2)):=bM (fun z w h=>by simp only[List.cons.injEq,J.int.injEq,J.bool.injEq,J.sl.injEq,cI,cH,cU,cV,cP,bY,cf,cO,bP,true_and,and_true] at h;simp[h]) z h he
theorem L5:a3 Tryz.prog G 137 uT:=by
 refine bK mixed WH I5 fun z ay=>?_
 obtain⟨a,b⟩:=z
 obtain⟨bQ,bm,lp⟩:=ay
 simp only at bQ bm lp|-
 have t1:=Ld (a,b) ⟨by simp only;omega,by simp only;omega⟩ (args:=[ai a,ai b]) (by simp)
 have t2:=Lh (a,b) ⟨by simp only;omega,by simp only;omega⟩ (args:=[ai a,ai b]) (by simp)
 have t3:=Wq (a,b) ⟨bQ,bm⟩ (args:=[ai a,ai b]) (by simp)
 simp only at t1 t2 t3
 have m:=ui (ad a).length (ad b).length
 generalize min (ad a).length (ad b).length=k at*
 generalize a*b=c at*
 obtain⟨W,lL⟩:∃W:List J,W= [.agg [.int .i64 (Z 48),.fn 200 [] []],.agg [.int .i64 (Z 14),.fn 201 [] []],.agg [.int .i64 (Z 8),.fn 202 [] []]]:=⟨_,rfl⟩
 have sF:W[0]? =some (.agg [.int .i64 (Z 48),.fn 200 [] []]):=by rw[lL];rfl
 have bT:W[1]? =some (.agg [.int .i64 (Z 14),.fn 201 [] []]):=by rw[lL];rfl
 have cL:W[2]? =some (.agg [.int .i64 (Z 8),.fn 202 [] []]):=by rw[lL];rfl
 unfold i137
 refine aX [0,1,4,6,10,11,12,13,23] fun F K=>?_
 obtain⟨f0,f1,f4,f6,f10,f11,f12,f13,f23⟩:=K
 have H:=m
 have K:=ik f0 f1 f4 f6 f10 f11 f12 f13 f23;clear f0 f1 f4 f6 f10 f11 f12 f13 f23
 repeat' (first|refine ak ?_|refine al ?_|((first|refine aI ?_|refine aJ ?_|refine aK ?_|exact ao|refine an ?_);try(refine ar [0,1,4,6,10,11,12,13,23] fun F k=>?_;replace K:=k;clear k))|(refine aq (fun I=>?_) (fun I=>?_)<;>first|(exfalso;simp(disch:=omega) [H] at I;done)|(exfalso;simp at I;omega)|simp at I)|exact aB|refine aA ?_|exact aD|refine aC ?_|exact trivial)
 all_goals obtain⟨f0,f1,f4,f6,f10,f11,f12,f13,f23⟩:=K
 have L6:F 10= .sl W true:=by rw[f10,lL]
 have L7:F 11=a4 3:=f11
 clear f10 f11
 have f10:=L6
 have f11:=L7
 clear L6 L7 lL
 refine ix 3 (fun i s=>s.F 12=a4 i/\(∀j,s.h.shut j=false)/\(0<i->k<48)/\(1<i->k<14)/\(2<i->k<8)) (fun s=>True) (fun s=>s.F 4=ai c) ?_ ?_ ?_ ?_
 · exact ⟨f12,fun _=>rfl,by omega,by omega,by omega⟩
 · rintro i s ab ag ⟨nv,b8,U,h2,aN⟩
   replace f0:=(ag 0 rfl).trans f0;replace f1:=(ag 1 rfl).trans f1;replace f10:=(ag 10 rfl).trans f10;replace f11:=(ag 11 rfl).trans f11
   clear f12
   have f12:=nv
   have K:=bH f0 f1 f10 f11 f12;clear f0 f1 f10 f11 f12
   refine bU [0,1,4,6,10,11,12,13,23] fun F k=>?_;clear K
   obtain⟨f0,f1,f4,f6,f10,f11,f12,f13,f23⟩:=k
   rcases show i=0\/i=1\/i=2\/i=3 by omega with rfl|rfl|rfl|rfl
   · skip
     have H:=b7 b8 sF m lp
     have K:=ik f0 f1 f4 f6 f10 f11 f12 f13 f23;clear f0 f1 f4 f6 f10 f11 f12 f13 f23
     repeat' (first|refine ak ?_|refine al ?_|((first|refine aI ?_|refine aJ ?_|refine aK ?_|exact ao|refine an ?_);try(refine ar [0,1,4,6,10,11,12,13,23] fun F k=>?_;replace K:=k;clear k))|(refine aq (fun I=>?_) (fun I=>?_)<;>first|(exfalso;simp(disch:=omega) [H] at I;done)|(exfalso;simp at I;omega)|simp at I)|exact aB|refine aA ?_|exact aD|refine aC ?_|exact trivial)
     all_goals obtain⟨f0,f1,f4,f6,f10,f11,f12,f13,f23⟩:=K
   · by_cases rh:k<14
     · skip
       have H:=b7 b8 bT m rh
       have K:=ik f0 f1 f4 f6 f10 f11 f12 f13 f23;clear f0 f1 f4 f6 f10 f11 f12 f13 f23
       repeat' (first|refine ak ?_|refine al ?_|((first|refine aI ?_|refine aJ ?_|refine aK ?_|exact ao|refine an ?_);try(refine ar [0,1,4,6,10,11,12,13,23] fun F k=>?_;replace K:=k;clear k))|(refine aq (fun I=>?_) (fun I=>?_)<;>first|(exfalso;simp(disch:=omega) [H] at I;done)|(exfalso;simp at I;omega)|simp at I)|exact aB|refine aA ?_|exact aD|refine aC ?_|exact trivial)
       all_goals obtain⟨f0,f1,f4,f6,f10,f11,f12,f13,f23⟩:=K
     · skip
       have H:=bH b8 bT m rh t3
       have K:=ik f0 f1 f4 f6 f10 f11 f12 f13 f23;clear f0 f1 f4 f6 f10 f11 f12 f13 f23
       repeat' (first|refine ak ?_|refine al ?_|((first|refine aI ?_|refine aJ ?_|refine aK ?_|exact ao|refine an ?_);try(refine ar [0,1,4,6,10,11,12,13,23] fun F k=>?_;replace K:=k;clear k))|(refine aq (fun I=>?_) (fun I=>?_)<;>first|(exfalso;simp(disch:=omega) [H] at I;done)|(exfalso;simp at I;omega)|simp at I)|exact aB|refine aA ?_|exact aD|refine aC ?_|exact trivial)
       all_goals obtain⟨f0,f1,f4,f6,f10,f11,f12,f13,f23⟩:=K
   · by_cases L8:k<8
     · skip
       have H:=b7 b8 cL m L8
       have K:=ik f0 f1 f4 f6 f10 f11 f12 f13 f23;clear f0 f1 f4 f6 f10 f11 f12 f13 f23
       repeat' (first|refine ak ?_|refine al ?_|((first|refine aI ?_|refine aJ ?_|refine aK ?_|exact ao|refine an ?_);try(refine ar [0,1,4,6,10,11,12,13,23] fun F k=>?_;replace K:=k;clear k))|(refine aq (fun I=>?_) (fun I=>?_)<;>first|(exfalso;simp(disch:=omega) [H] at I;done)|(exfalso;simp at I;omega)|simp at I)|exact aB|refine aA ?_|exact aD|refine aC ?_|exact trivial)
       all_goals obtain⟨f0,f1,f4,f6,f10,f11,f12,f13,f23⟩:=K
     · skip
       have H:=bH b8 cL m L8 t2
       have K:=ik f0 f1 f4 f6 f10 f11 f12 f13 f23;clear f0 f1 f4 f6 f10 f11 f12 f13 f23
       repeat' (first|refine ak ?_|refine al ?_|((first|refine aI ?_|refine aJ ?_|refine aK ?_|exact ao|refine an ?_);try(refine ar [0,1,4,6,10,11,12,13,23] fun F k=>?_;replace K:=k;clear k))|(refine aq (fun I=>?_) (fun I=>?_)<;>first|(exfalso;simp(disch:=omega) [H] at I;done)|(exfalso;simp at I;omega)|simp at I)|exact aB|refine aA ?_|exact aD|refine aC ?_|exact trivial)
       all_goals obtain⟨f0,f1,f4,f6,f10,f11,f12,f13,f23⟩:=K
   · skip
     have H:=trivial
     have K:=ik f0 f1 f4 f6 f10 f11 f12 f13 f23;clear f0 f1 f4 f6 f10 f11 f12 f13 f23
     repeat' (first|refine ak ?_|refine al ?_|((first|refine aI ?_|refine aJ ?_|refine aK ?_|exact ao|refine an ?_);try(refine ar [0,1,4,6,10,11,12,13,23] fun F k=>?_;replace K:=k;clear k))|(refine aq (fun I=>?_) (fun I=>?_)<;>first|(exfalso;simp(disch:=omega) [H] at I;done)|(exfalso;simp at I;omega)|simp at I)|exact aB|refine aA ?_|exact aD|refine aC ?_|exact trivial)
     all_goals obtain⟨f0,f1,f4,f6,f10,f11,f12,f13,f23⟩:=K
 · rintro s ag -
   replace f0:=(ag 0 rfl).trans f0;replace f1:=(ag 1 rfl).trans f1
   clear f12
   have K:=bN f0 f1;clear f0 f1
   refine bU [0,1,4] fun F k=>?_;clear K
   obtain⟨f0,f1,f4⟩:=k
   have H:=t1
   have K:=bI f0 f1 f4;clear f0 f1 f4
   repeat' (first|refine ak ?_|refine al ?_|((first|refine aI ?_|refine aJ ?_|refine aK ?_|exact ao|refine an ?_);try(refine ar [0,1,4] fun F k=>?_;replace K:=k;clear k))|(refine aq (fun I=>?_) (fun I=>?_)<;>first|(exfalso;simp(disch:=omega) [H] at I;done)|(exfalso;simp at I;omega)|simp at I)|exact aB|refine aA ?_|exact aD|refine aC ?_|exact trivial)
   all_goals obtain⟨f0,f1,f4⟩:=K
 · rintro s ag a8
   simp[a8]
end
section
attribute [local irreducible] br
attribute [local simp] di db cB
noncomputable def L9:FuncId->Option (List J->Option J):=cT [(137,uT)]
theorem WM:∀f T,L9 f=some T->a3 Tryz.prog G f T:=cX (by simp only[List.forall_mem_cons];exact ⟨L5,fun _ h=>absurd h (by simp)⟩)
theorem WN:L9 137=some uT:=rfl
attribute [local simp] WN
theorem WO {x y:Nat} (ae:x≠0) (a2:y≠0):(ad x).length+(ad y).length<=(ad (x*y)).length+1:=by
 have U:=lM.2 ae
 have h2:=lM.2 a2
 have aN:ah ((ad x).length - 1)<=x:=CP.1 (by omega)
 have a8:ah ((ad y).length - 1)<=y:=CP.1 (by omega)
 have cr:=Nat.mul_le_mul aN a8
 rw[<-iU] at cr
 have:=CP.2 cr
 omega
theorem L_ {x y R:Nat} (h:x*y<=R) (eA:(ad R).length<=94):min (ad x).length (ad y).length<48:=by
 by_cases ae:x=0
 · subst ae;rw[e_];simp
 by_cases a2:y=0
 · subst a2;rw[e_];simp
 have U:=WO ae a2
 have h2:=ir h
 omega
def L' (a n m:Nat) (s:aW):Prop:=∃o b e,o*b^m=a^n/\(ad o).length<=94/\(ad b).length<=94/\(a=0->b=0)/\s.F 5=cg (ad o) e/\s.F 0=ai b/\s.F 1=a4 m
theorem WQ {o b m R:Nat} (h:o*b^m=R) (hm:m%2=1):(o*b)*(b*b)^(m/2)=R:=by
 have e:m=2*(m/2)+1:=by omega
 rw[<-h]
 generalize m/2=k at*
 subst e
 rw[Nat.pow_succ,Nat.pow_mul,Nat.pow_two,Nat.mul_assoc,Nat.mul_comm b]
theorem WR {o b m R:Nat} (h:o*b^m=R) (hm:m%2=0):o*(b*b)^(m/2)=R:=by
 have e:m=2*(m/2):=by omega
 rw[<-h]
 generalize m/2=k at*
 subst e
 rw[Nat.pow_mul,Nat.pow_two]
theorem Ma {x y R:Nat} (h:x*y=R) (eA:R≠0):x<=R:=by
 rw[<-h];exact Nat.le_mul_of_pos_right _ (Nat.pos_of_ne_zero fun aQ=>eA (by rw[<-h,aQ,Nat.mul_zero]))
theorem Mb {a n:Nat} (h:a^n=0):a=0:=Decidable.byContradiction fun aV=>absurd h (Nat.ne_of_gt (Nat.pow_pos (Nat.pos_of_ne_zero aV)))
noncomputable def zB:List J->Option J:=bu (fun z:Nat × Nat=>(ad z.1).length<=94/\z.2<9223372036854775808/\(ad (z.1^z.2)).length<=94) (fun z=>[ai z.1,a4 z.2]) (fun z=>ai (z.1^z.2))
theorem WS (z:Nat × Nat) (h:(ad z.1).length<=94/\z.2<9223372036854775808/\(ad (z.1^z.2)).length<=94) {args:List J} (he:args.map J.loose= [ai z.1,a4 z.2]):zB args=some (ai (z.1^z.2)):=bM (fun z w h=>by simp only[List.cons.injEq,J.int.injEq,J.bool.injEq,J.sl.injEq,cI,cH,cU,cV,cP,bY,cf,cO,bP,true_and,and_true] at h;simp[h]) z h he
theorem WT:a3 Tryz.prog G 152 zB:=by
 refine bK mixed WM Jb fun z ay=>?_
 obtain⟨a,n⟩:=z
 obtain⟨bQ,az,uo⟩:=ay
 simp only at bQ az uo|-
 unfold i152
 refine aX [0,1,4,5,8,13,18] fun F K=>?_
 obtain⟨f0,f1,f4,f5,f8,f13,f18⟩:=K
 have H:=trivial
 have K:=dN f0 f1 f4 f5 f8 f13 f18;clear f0 f1 f4 f5 f8 f13 f18
 repeat' (first|refine ak ?_|refine al ?_|((first|refine aI ?_|refine aJ ?_|refine aK ?_|exact ao|refine an ?_);try(refine ar [0,1,4,5,8,13,18] fun F k=>?_;replace K:=k;clear k))|(refine aq (fun I=>?_) (fun I=>?_)<;>first|(exfalso;simp(disch:=omega) [H] at I;done)|(exfalso;simp at I;omega)|simp at I)|exact aB|refine aA ?_|exact aD|refine aC ?_|exact trivial)
 all_goals obtain⟨f0,f1,f4,f5,f8,f13,f18⟩:=K
 refine mZ (fun m s=>m<9223372036854775808/\L' a n m s) (L' a n 0) (fun _=>False) n ?_ ?_ ?_ (fun _ _ h=>h.elim)
 · exact ⟨az,1,a,true,Nat.one_mul _,by rw[nX];decide,bQ,fun h=>h,by show F 5=_;rw[f5,nX];rfl,f0,f1⟩
 · rintro m s ag ⟨hm,o,b,e,aF,cu,bm,iw,fa,sF,bT⟩
   clear f0 f1 f5
   have f0:=sF
   have f1:=bT
   have f5:=fa
   have K:=bI f0 f1 f5;clear f0 f1 f5
   refine bU [0,1,5,8,13,18] fun F k=>?_;clear K
   obtain⟨f0,f1,f5,f8,f13,f18⟩:=k
   have s6:(m&&&1)=m%2:=Nat.and_one_is_mod m
   have b8:min 1 64=1:=by decide
   by_cases n0:m=0
   · subst n0
     have H:=trivial
     have K:=en f0 f1 f5 f8 f13 f18;clear f0 f1 f5 f8 f13 f18
     repeat' (first|refine ak ?_|refine al ?_|((first|refine aI ?_|refine aJ ?_|refine aK ?_|exact ao|refine an ?_);try(refine ar [0,1,5,8,13,18] fun F k=>?_;replace K:=k;clear k))|(refine aq (fun I=>?_) (fun I=>?_)<;>first|(exfalso;simp(disch:=omega) [H] at I;done)|(exfalso;simp at I;omega)|simp at I)|exact aB|refine aA ?_|exact aD|refine aC ?_|exact trivial)
     all_goals obtain⟨f0,f1,f5,f8,f13,f18⟩:=K
     exact ⟨o,b,e,aF,cu,bm,iw,f5,f0,f1⟩
   · have rn:0<m:=by omega
     have vA:∀R,o*b^m=R->R≠0->1<m->b*b<=R:=fun R h eA ld=>by
      have aa:b≠0:=fun aQ=>eA (by rw[<-h,aQ,Nat.zero_pow (by omega),Nat.mul_zero])
      have U:b^m<=R:=by rw[Nat.mul_comm] at h;exact Ma h eA
      have h2:b^2<=b^m:=Nat.pow_le_pow_right (by omega) ld
      rw[Nat.pow_two] at h2
      omega
     have la:1<m->min (ad b).length (ad b).length<48/\(ad (b*b)).length<=94:=fun ld=>by
      by_cases eA:a^n=0
      · have:=iw (Mb eA)
        subst this
        rw[Nat.zero_mul,e_];simp
      · have:=vA _ aF eA ld
        exact ⟨L_ this uo,Nat.le_trans (ir this) uo⟩
     by_cases Mc:m%2=1
     · have zC:=WQ aF Mc
       have D_:min (ad o).length (ad b).length<48/\(ad (o*b)).length<=94:=by
        by_cases eA:a^n=0
        · have:=iw (Mb eA)
          subst this
          rw[Nat.mul_zero,e_];simp
        · have:=Ma zC eA
          exact ⟨L_ this uo,Nat.le_trans (ir this) uo⟩
       have t1:=zA (o,b) ⟨by simp only;omega,by simp only;omega,D_.1⟩ (args:=[cg (ad o) e,ai b]) (by simp)
       simp only at t1
       by_cases ld:1<m
       · have t2:=zA (b,b) ⟨by simp only;omega,by simp only;omega,(la ld).1⟩ (args:=[ai b,ai b]) (by simp)
         have dp:=(la ld).2
         simp only at t2
         generalize Md:o*b=D' at*
         generalize Ea:b*b=ej at*
         have H:=dN rn s6 Mc ld b8 t1 t2
         have K:=en f0 f1 f5 f8 f13 f18;clear f0 f1 f5 f8 f13 f18
         repeat' (first|refine ak ?_|refine al ?_|((first|refine aI ?_|refine aJ ?_|refine aK ?_|exact ao|refine an ?_);try(refine ar [0,1,5,8,13,18] fun F k=>?_;replace K:=k;clear k))|(refine aq (fun I=>?_) (fun I=>?_)<;>first|(exfalso;simp(disch:=omega) [H] at I;done)|(exfalso;simp at I;omega)|simp at I)|exact aB|refine aA ?_|exact aD|refine aC ?_|exact trivial)
         all_goals obtain⟨f0,f1,f5,f8,f13,f18⟩:=K
         exact ⟨m/2,by omega,by omega,D',ej,false,zC,D_.2,dp,fun h=>by rw[<-Ea,iw h],f5,f0,rfl⟩
       · have WU:m=1:=by omega
         subst WU
         generalize Md:o*b=D' at*
         have H:=bI s6 b8 t1
         have K:=en f0 f1 f5 f8 f13 f18;clear f0 f1 f5 f8 f13 f18
         repeat' (first|refine ak ?_|refine al ?_|((first|refine aI ?_|refine aJ ?_|refine aK ?_|exact ao|refine an ?_);try(refine ar [0,1,5,8,13,18] fun F k=>?_;replace K:=k;clear k))|(refine aq (fun I=>?_) (fun I=>?_)<;>first|(exfalso;simp(disch:=omega) [H] at I;done)|(exfalso;simp at I;omega)|simp at I)|exact aB|refine aA ?_|exact aD|refine aC ?_|exact trivial)
         all_goals obtain⟨f0,f1,f5,f8,f13,f18⟩:=K
         exact ⟨D',b,false,by rw[<-Md,Nat.pow_zero,Nat.mul_one];rw[Nat.pow_one] at aF;exact aF,D_.2,bm,iw,f5,f0,rfl⟩
     · have zD:m%2=0:=by omega
       have ld:1<m:=by omega
       have zC:=WR aF zD
       have t2:=zA (b,b) ⟨by simp only;omega,by simp only;omega,(la ld).1⟩ (args:=[ai b,ai b]) (by simp)
       have dp:=(la ld).2
       simp only at t2
       generalize Ea:b*b=ej at*
       have H:=en rn s6 zD ld b8 t2
       have K:=en f0 f1 f5 f8 f13 f18;clear f0 f1 f5 f8 f13 f18
       repeat' (first|refine ak ?_|refine al ?_|((first|refine aI ?_|refine aJ ?_|refine aK ?_|exact ao|refine an ?_);try(refine ar [0,1,5,8,13,18] fun F k=>?_;replace K:=k;clear k))|(refine aq (fun I=>?_) (fun I=>?_)<;>first|(exfalso;simp(disch:=omega) [H] at I;done)|(exfalso;simp at I;omega)|simp at I)|exact aB|refine aA ?_|exact aD|refine aC ?_|exact trivial)
       all_goals obtain⟨f0,f1,f5,f8,f13,f18⟩:=K
       exact ⟨m/2,by omega,by omega,o,ej,e,zC,cu,dp,fun h=>by rw[<-Ea,iw h],f5,f0,rfl⟩
 · rintro s ag ⟨o,b,e,aF,cu,bm,iw,fa,sF,bT⟩
   rw[Nat.pow_zero,Nat.mul_one] at aF
   subst aF
   clear f0 f1 f5
   have f5:=fa
   have K:=f5;clear f5
   refine bU [4,5] fun F k=>?_;clear K
   obtain⟨f4,f5⟩:=k
   generalize a^n=r at*
   have H:=trivial
   have K:=bN f4 f5;clear f4 f5
   repeat' (first|refine ak ?_|refine al ?_|((first|refine aI ?_|refine aJ ?_|refine aK ?_|exact ao|refine an ?_);try(refine ar [4,5] fun F k=>?_;replace K:=k;clear k))|(refine aq (fun I=>?_) (fun I=>?_)<;>first|(exfalso;simp(disch:=omega) [H] at I;done)|(exfalso;simp at I;omega)|simp at I)|exact aB|refine aA ?_|exact aD|refine aC ?_|exact trivial)
   all_goals obtain⟨f4,f5⟩:=K
end
section
attribute [local irreducible] br
attribute [local simp] di db cB
noncomputable def zE:FuncId->Option (List J->Option J):=cT [(137,uT),(152,zB),(84,n5)]
theorem Me:∀f T,zE f=some T->a3 Tryz.prog G f T:=cX (by simp only[List.forall_mem_cons];exact ⟨L5,WT,zb,fun _ h=>absurd h (by simp)⟩)
theorem WV:zE 137=some uT:=rfl
theorem WW:zE 152=some zB:=rfl
theorem WX:zE 84=some n5:=rfl
attribute [local simp] WV WW WX
noncomputable def rp:List J->Option J:=bu (fun z:Int × Int=>a' z.1<=500000/\a' z.2<=500000/\min (a' z.1) (a' z.2)<48) (fun z=>[aH z.1,aH z.2]) (fun z=>aH (z.1*z.2))
theorem uU (z:Int × Int) (h:a' z.1<=500000/\a' z.2<=500000/\min (a' z.1) (a' z.2)<48) {args:List J} (he:args.map J.loose= [aH z.1,aH z.2]):rp args=some (aH (z.1*z.2)):=bM (fun z w h=>by simp only[List.cons.injEq,J.int.injEq,J.bool.injEq,J.sl.injEq,cI,cH,cU,cV,cP,bY,cf,cO,bP,true_and,and_true] at h;simp[h]) z h he
theorem Eb:a3 Tryz.prog G 52 rp:=by
 refine bK mixed Me ID fun z ay=>?_
 obtain⟨a,b⟩:=z
 obtain⟨aV,aa,hm⟩:=ay
 simp only[a'] at aV aa hm|-
 have t1:=zA (a.natAbs,b.natAbs) ⟨aV,aa,hm⟩ (args:=[ai a.natAbs,ai b.natAbs]) (by simp)
 have aG:=kY a.natAbs b.natAbs
 have t2:=m7 (b:=bn a != bn b) (n:=a.natAbs*b.natAbs) (by omega)
 rw[LS] at t2
 simp only at t1
 generalize a.natAbs*b.natAbs=m at*
 generalize a*b=c at*
 unfold i52
 cases bg:bn a<;>cases bt:bn b<;>rw[bg,bt] at t2<;>simp only[bne,beq_self_eq_true,Bool.not_true,Bool.not_false,show (false == true)=false from rfl,show (true == false)=false from rfl] at t2
 · skip
   refine aX [0,1,2,3,4] fun F K=>?_
   obtain⟨f0,f1,f2,f3,f4⟩:=K
   have H:=b7 bg bt t1 t2
   have K:=bH f0 f1 f2 f3 f4;clear f0 f1 f2 f3 f4
   repeat' (first|refine ak ?_|refine al ?_|((first|refine aI ?_|refine aJ ?_|refine aK ?_|exact ao|refine an ?_);try(refine ar [0,1,2,3,4] fun F k=>?_;replace K:=k;clear k))|(refine aq (fun I=>?_) (fun I=>?_)<;>first|(exfalso;simp(disch:=omega) [H] at I;done)|(exfalso;simp at I;omega)|simp at I)|exact aB|refine aA ?_|exact aD|refine aC ?_|exact trivial)
   all_goals obtain⟨f0,f1,f2,f3,f4⟩:=K
 · skip
   refine aX [0,1,2,3,4] fun F K=>?_
   obtain⟨f0,f1,f2,f3,f4⟩:=K
   have H:=b7 bg bt t1 t2
   have K:=bH f0 f1 f2 f3 f4;clear f0 f1 f2 f3 f4
   repeat' (first|refine ak ?_|refine al ?_|((first|refine aI ?_|refine aJ ?_|refine aK ?_|exact ao|refine an ?_);try(refine ar [0,1,2,3,4] fun F k=>?_;replace K:=k;clear k))|(refine aq (fun I=>?_) (fun I=>?_)<;>first|(exfalso;simp(disch:=omega) [H] at I;done)|(exfalso;simp at I;omega)|simp at I)|exact aB|refine aA ?_|exact aD|refine aC ?_|exact trivial)
   all_goals obtain⟨f0,f1,f2,f3,f4⟩:=K
 · skip
   refine aX [0,1,2,3,4] fun F K=>?_
   obtain⟨f0,f1,f2,f3,f4⟩:=K
   have H:=b7 bg bt t1 t2
   have K:=bH f0 f1 f2 f3 f4;clear f0 f1 f2 f3 f4
   repeat' (first|refine ak ?_|refine al ?_|((first|refine aI ?_|refine aJ ?_|refine aK ?_|exact ao|refine an ?_);try(refine ar [0,1,2,3,4] fun F k=>?_;replace K:=k;clear k))|(refine aq (fun I=>?_) (fun I=>?_)<;>first|(exfalso;simp(disch:=omega) [H] at I;done)|(exfalso;simp at I;omega)|simp at I)|exact aB|refine aA ?_|exact aD|refine aC ?_|exact trivial)
   all_goals obtain⟨f0,f1,f2,f3,f4⟩:=K
 · skip
   refine aX [0,1,2,3,4] fun F K=>?_
   obtain⟨f0,f1,f2,f3,f4⟩:=K
   have H:=b7 bg bt t1 t2
   have K:=bH f0 f1 f2 f3 f4;clear f0 f1 f2 f3 f4
   repeat' (first|refine ak ?_|refine al ?_|((first|refine aI ?_|refine aJ ?_|refine aK ?_|exact ao|refine an ?_);try(refine ar [0,1,2,3,4] fun F k=>?_;replace K:=k;clear k))|(refine aq (fun I=>?_) (fun I=>?_)<;>first|(exfalso;simp(disch:=omega) [H] at I;done)|(exfalso;simp at I;omega)|simp at I)|exact aB|refine aA ?_|exact aD|refine aC ?_|exact trivial)
   all_goals obtain⟨f0,f1,f2,f3,f4⟩:=K
noncomputable def zF:List J->Option J:=bu (fun z:Int × Nat=>a' z.1<=94/\z.2<9223372036854775808/\a' (z.1^z.2)<=94) (fun z=>[aH z.1,a4 z.2]) (fun z=>aH (z.1^z.2))
theorem WY (z:Int × Nat) (h:a' z.1<=94/\z.2<9223372036854775808/\a' (z.1^z.2)<=94) {args:List J} (he:args.map J.loose= [aH z.1,a4 z.2]):zF args=some (aH (z.1^z.2)):=bM (fun z w h=>by simp only[List.cons.injEq,J.int.injEq,J.bool.injEq,J.sl.injEq,cI,cH,cU,cV,cP,bY,cf,cO,bP,true_and,and_true] at h;simp[h]) z h he
theorem WZ:a3 Tryz.prog G 69 zF:=by
 refine bK mixed Me IK fun z ay=>?_
 obtain⟨a,n⟩:=z
 obtain⟨aV,az,aU⟩:=ay
 simp only[a',Int.natAbs_pow] at aV az aU|-
 have t1:=WS (a.natAbs,n) ⟨aV,az,aU⟩ (args:=[ai a.natAbs,a4 n]) (by simp)
 have t2:=m7 (b:=bn a&&decide (n%2=1)) (n:=a.natAbs^n) (by omega)
 rw[Wv] at t2
 have s6:(n&&&1)=n%2:=Nat.and_one_is_mod n
 simp only at t1
 generalize eA:a^n=c at*
 generalize a.natAbs^n=m at*
 unfold i69
 cases bg:bn a<;>rw[bg] at t2
 · simp only[Bool.false_and] at t2
   refine aX [0,1,2,4] fun F K=>?_
   obtain⟨f0,f1,f2,f4⟩:=K
   have H:=bH bg az s6 t1 t2
   have K:=b7 f0 f1 f2 f4;clear f0 f1 f2 f4
   repeat' (first|refine ak ?_|refine al ?_|((first|refine aI ?_|refine aJ ?_|refine aK ?_|exact ao|refine an ?_);try(refine ar [0,1,2,4] fun F k=>?_;replace K:=k;clear k))|(refine aq (fun I=>?_) (fun I=>?_)<;>first|(exfalso;simp(disch:=omega) [H] at I;done)|(exfalso;simp at I;omega)|simp at I)|exact aB|refine aA ?_|exact aD|refine aC ?_|exact trivial)
   all_goals obtain⟨f0,f1,f2,f4⟩:=K
 · by_cases aL:n%2=1
   · simp only[aL,decide_true,Bool.and_self] at t2
     refine aX [0,1,2,4] fun F K=>?_
     obtain⟨f0,f1,f2,f4⟩:=K
     have H:=en bg az s6 aL t1 t2
     have K:=b7 f0 f1 f2 f4;clear f0 f1 f2 f4
     repeat' (first|refine ak ?_|refine al ?_|((first|refine aI ?_|refine aJ ?_|refine aK ?_|exact ao|refine an ?_);try(refine ar [0,1,2,4] fun F k=>?_;replace K:=k;clear k))|(refine aq (fun I=>?_) (fun I=>?_)<;>first|(exfalso;simp(disch:=omega) [H] at I;done)|(exfalso;simp at I;omega)|simp at I)|exact aB|refine aA ?_|exact aD|refine aC ?_|exact trivial)
     all_goals obtain⟨f0,f1,f2,f4⟩:=K
   · simp only[aL,decide_false,Bool.and_false] at t2
     have zD:n%2=0:=by omega
     refine aX [0,1,2,4] fun F K=>?_
     obtain⟨f0,f1,f2,f4⟩:=K
     have H:=en bg az s6 zD t1 t2
     have K:=b7 f0 f1 f2 f4;clear f0 f1 f2 f4
     repeat' (first|refine ak ?_|refine al ?_|((first|refine aI ?_|refine aJ ?_|refine aK ?_|exact ao|refine an ?_);try(refine ar [0,1,2,4] fun F k=>?_;replace K:=k;clear k))|(refine aq (fun I=>?_) (fun I=>?_)<;>first|(exfalso;simp(disch:=omega) [H] at I;done)|(exfalso;simp at I;omega)|simp at I)|exact aB|refine aA ?_|exact aD|refine aC ?_|exact trivial)
     all_goals obtain⟨f0,f1,f2,f4⟩:=K
noncomputable def s7:FuncId->Option (List J->Option J):=cT [(172,lP),(173,mf),(171,nt),(174,jP),(84,n5)]
theorem W0:∀f T,s7 f=some T->a3 Tryz.prog G f T:=cX (by simp only[List.forall_mem_cons];exact ⟨y4,Dk,wD,uv,zb,fun _ h=>absurd h (by simp)⟩)
theorem W1:s7 172=some lP:=rfl
theorem W2:s7 173=some mf:=rfl
theorem W3:s7 171=some nt:=rfl
theorem W4:s7 174=some jP:=rfl
theorem W5:s7 84=some n5:=rfl
theorem W6:s7 175=none:=rfl
attribute [local simp] W1 W2 W3 W4 W5 W6
noncomputable def Ec:List J->Option J:=bu (fun z:Int × Nat=>a' z.1<=10000000/\z.2<=10000000) (fun z=>[aH z.1,a4 z.2]) (fun z=>aH (z.1*2^z.2))
theorem W7:a3 Tryz.prog G 86 Ec:=by
 refine bK mixed W0 IM fun z ay=>?_
 obtain⟨a,n⟩:=z
 obtain⟨aV,az⟩:=ay
 simp only[a'] at aV az|-
 have aS:=Nat.pow_pos (n:=n) (show 0<2 by decide)
 have r4:a.natAbs<=a.natAbs*2^n:=Nat.le_mul_of_pos_right _ aS
 have aG:=kY a.natAbs (2^n)
 have jq:(ad (2^n)).length<=n+1:=cN.2 (by rw[k9];exact Nat.pow_lt_pow_right (by decide) (by omega))
 have t1:=sL (a:=a.natAbs) (n:=n) (e:=false) (by omega) (by omega)
 have t2:=wC (a:=a.natAbs*2^n) (b:=a.natAbs) (e:=false) (e':=false) (by omega) (by omega)
 have t3:=m7 (b:=bn a) (n:=a.natAbs*2^n) (by omega)
 rw[LU] at t3
 have mJ:(eg (a.natAbs*2^n) a.natAbs<Z 0)=False:=eq_false (by simp only[eg];rw[if_neg (by omega)];split<;>decide)
 generalize eg (a.natAbs*2^n) a.natAbs=y3 at*
 generalize a.natAbs*2^n=m at*
 generalize a*2^n=c at*
 unfold i86
 cases bg:bn a<;>rw[bg] at t3
 · skip
   refine aX [0,1,2,4,5,6,8,33] fun F K=>?_
   obtain⟨f0,f1,f2,f4,f5,f6,f8,f33⟩:=K
   have H:=bH bg t1 t2 t3 mJ
   have K:=e7 f0 f1 f2 f4 f5 f6 f8 f33;clear f0 f1 f2 f4 f5 f6 f8 f33
   repeat' (first|refine ak ?_|refine al ?_|((first|refine aI ?_|refine aJ ?_|refine aK ?_|exact ao|refine an ?_);try(refine ar [0,1,2,4,5,6,8,33] fun F k=>?_;replace K:=k;clear k))|(refine aq (fun I=>?_) (fun I=>?_)<;>first|(exfalso;simp(disch:=omega) [H] at I;done)|(exfalso;simp at I;omega)|simp at I)|exact aB|refine aA ?_|exact aD|refine aC ?_|exact trivial)
   all_goals obtain⟨f0,f1,f2,f4,f5,f6,f8,f33⟩:=K
 · skip
   refine aX [0,1,2,4,5,6,8,33] fun F K=>?_
   obtain⟨f0,f1,f2,f4,f5,f6,f8,f33⟩:=K
   have H:=bH bg t1 t2 t3 mJ
   have K:=e7 f0 f1 f2 f4 f5 f6 f8 f33;clear f0 f1 f2 f4 f5 f6 f8 f33
   repeat' (first|refine ak ?_|refine al ?_|((first|refine aI ?_|refine aJ ?_|refine aK ?_|exact ao|refine an ?_);try(refine ar [0,1,2,4,5,6,8,33] fun F k=>?_;replace K:=k;clear k))|(refine aq (fun I=>?_) (fun I=>?_)<;>first|(exfalso;simp(disch:=omega) [H] at I;done)|(exfalso;simp at I;omega)|simp at I)|exact aB|refine aA ?_|exact aD|refine aC ?_|exact trivial)
   all_goals obtain⟨f0,f1,f2,f4,f5,f6,f8,f33⟩:=K
end
section
attribute [local irreducible] br
attribute [local simp] di db cB Ly Lz wS wT
def Mf (h:af) (id off n Yv g:Nat) (o:List Nat) (i:Nat) (s:aW):Prop:=∃o' c b,o'.length=o.length/\Small o'/\(∀j,j<off\/off+n<j->aP o' j=aP o j)/\c<4294967296/\b<=1/\(n<i->c=0)/\val o'+ah off*(g*(Yv%ah i))=val o+ah off*ah i*(c+b)/\
 s.F 7=fo c/\s.F 8=bx b/\fq s.h id o'/\lS id h s.h
theorem W8 (Y:List cR) (h:af) {id ry off n cap Yv g:Nat} {o:List Nat} (V:fq h id o) (W:fq h ry (ad Yv)) (bV:ry≠id) (az:(ad Yv).length=n) (r7:0<n) (fB:Small o) (iV:off+n+1<=o.length) (aG:o.length<=1000000000) (ba:g<4294967296):
 ∃v h',eP G (aR Tryz.prog) jR Y (.fn 262) [.ref id off (n+1) cap,.ref ry 0 n n,fo g] h=some (v,h')/\
  ∃o' b,v= .bool (decide (0<b))/\o'.length=o.length/\Small o'/\(∀j,j<off\/off+n<j->aP o' j=aP o j)/\b<=1/\val o'+ah off*(g*Yv)=val o+ah off*ah (n+1)*b/\fq h' id o'/\lS id h h':=by
 refine j0 JK ?_
 have a2:=dZ Yv
 have w7:Yv<ah n:=cN.1 (by omega)
 have hw:IntKind.i64.wrap (Z n+Z 1)=Z (n+1):=dC (by omega)
 have w8:∀i,ah off*ah (i+1)=ah off*ah i*4294967296:=fun i=>by rw[et,Nat.mul_assoc]
 unfold i262
 refine aX [0,1,2,6,7,8,9,10,13,14,15,20] fun F K=>?_
 obtain⟨f0,f1,f2,f6,f7,f8,f9,f10,f13,f14,f15,f20⟩:=K
 have H:=hw
 have K:=j2 f0 f1 f2 f6 f7 f8 f9 f10 f13 f14 f15 f20;clear f0 f1 f2 f6 f7 f8 f9 f10 f13 f14 f15 f20
 repeat' (first|refine ak ?_|refine al ?_|((first|refine b4 ?_|refine b5 ?_|refine b6 ?_|exact ao|refine an ?_);try(refine ar [0,1,2,6,7,8,9,10,13,14,15,20] fun F k=>?_;replace K:=k;clear k))|(refine aq (fun I=>?_) (fun I=>?_)<;>first|(exfalso;simp(disch:=omega) [H] at I;done)|(exfalso;simp at I;omega)|simp at I)|exact aB|refine aA ?_|exact aD|refine aC ?_|exact trivial)
 all_goals obtain⟨f0,f1,f2,f6,f7,f8,f9,f10,f13,f14,f15,f20⟩:=K
 refine ix (n+1) (fun i s=>Mf h id off n Yv g o i s/\s.F 14=a4 i) (Mf h id off n Yv g o (n+1)) (fun _=>False) ?_ ?_ ?_ (fun _ _ h=>h.elim)
 · exact ⟨⟨o,0,0,rfl,fB,fun _ _=>rfl,by decide,by decide,fun _=>rfl,by simp[fA,Nat.mod_one],f7,f8,V.bump _ _ (by omega),(lS.refl id h).bump _ (by omega)⟩,f14⟩
 · rintro i s ab ag ⟨⟨o',c,b,ol,os,lT,mL,p1,Ed,aF,eK,eT,ji,K⟩,W9⟩
   replace f0:=(ag 0 rfl).trans f0;replace f1:=(ag 1 rfl).trans f1;replace f2:=(ag 2 rfl).trans f2;replace f13:=(ag 13 rfl).trans f13
   clear f7 f8 f14
   have f7:=eK
   have f8:=eT
   have f14:=W9
   have K:=dN f0 f1 f2 f7 f8 f13 f14;clear f0 f1 f2 f7 f8 f13 f14
   refine bU [0,1,2,7,8,9,10,13,14,15,20] fun F k=>?_;clear K
   obtain⟨f0,f1,f2,f7,f8,f9,f10,f13,f14,f15,f20⟩:=k
   by_cases a8:i<n+1
   · have ae:=os.aP (off+i)
     have go:=kf (show off+i<o'.length by omega)
     have sz:=kI (show 0<o'.length by omega)
     have dT:=ji.cells
     have fp:=ji.b9
     have n':s.h.cells ry=some (bm (ad Yv)):=by rw[K.cells ry W.dj bV];exact W.cells
     have p2:=kI (show 0<(ad Yv).length by omega)
     by_cases cr:i<n
     · have Mg:=a2.aP i
       have oa:=kf (show i<(ad Yv).length by omega)
       have lf:=iy Yv i
       generalize ja:aP o' (off+i)=x at*
       generalize aP (ad Yv) i=y at*
       obtain⟨p,aS⟩:∃p,p=g*y+c:=⟨_,rfl⟩
       have aeD:g*y<=4294967295*4294967295:=Nat.mul_le_mul (by omega) (by omega)
       have W_:g*y<18446744073709551616:=by omega
       have vY:p<18446744073709551616:=by omega
       have t:=C8 (x:=x) (y:=p%4294967296) (c:=b) ae (Nat.mod_lt _ (by decide)) p1
       have mT:(4294967296+x - p%4294967296 - b)%4294967296+p%4294967296+b=x+4294967296*(if x<p%4294967296+b then 1 else 0):=by split<;>omega
       have sf:(if x<p%4294967296+b then 1 else 0)<=1:=by split<;>omega
       have s8:(4294967296+x - p%4294967296 - b)%4294967296<4294967296:=Nat.mod_lt _ (by decide)
       generalize (4294967296+x - p%4294967296 - b)%4294967296=out at*
       generalize (if x<p%4294967296+b then 1 else 0)=j9 at*
       have st:=oW o' (off+i) out
       have iz:=m3 out (show off+i<o'.length by omega)
       rw[ja,iU] at iz
       have eN:=LV iz mT (Nat.div_add_mod p 4294967296).symm aS aF rfl
       rw[lf,<-mc] at eN
       have nQ:=aS.symm
       clear aS mT iz aF lf
       generalize W':g*y=aeE at*
       have H:=wo a8 cr dT fp n' go oa sz p2 st t W' nQ W_ vY
       have K:=kE f0 f1 f2 f7 f8 f9 f10 f13 f14 f15 f20;clear f0 f1 f2 f7 f8 f9 f10 f13 f14 f15 f20
       repeat' (first|refine ak ?_|refine al ?_|((first|refine b4 ?_|refine b5 ?_|refine b6 ?_|exact ao|refine an ?_);try(refine ar [0,1,2,7,8,9,10,13,14,15,20] fun F k=>?_;replace K:=k;clear k))|(refine aq (fun I=>?_) (fun I=>?_)<;>first|(exfalso;simp(disch:=omega) [H] at I;done)|(exfalso;simp at I;omega)|simp at I)|exact aB|refine aA ?_|exact aD|refine aC ?_|exact trivial)
       all_goals obtain⟨f0,f1,f2,f7,f8,f9,f10,f13,f14,f15,f20⟩:=K
       refine⟨o'.set (off+i) out,p/4294967296,j9,by rw[List.length_set];exact ol,m4 os s8,fun j aO=>?_,by omega,sf,fun cS=>absurd cS (by omega),by rw[w8 i];exact eN,f7,f8,ji.put _ _ _ (by omega),K.put _ _ (by omega)⟩
       rw[ns _ _ (by omega),if_neg (by omega)]
       exact lT j aO
     · obtain rfl:i=n:=by omega
       generalize ja:aP o' (off+i)=x at*
       have t:=C8 (x:=x) (y:=c) (c:=b) ae mL p1
       have mT:(4294967296+x - c - b)%4294967296+c+b=x+4294967296*(if x<c+b then 1 else 0):=by split<;>omega
       have sf:(if x<c+b then 1 else 0)<=1:=by split<;>omega
       have s8:(4294967296+x - c - b)%4294967296<4294967296:=Nat.mod_lt _ (by decide)
       generalize (4294967296+x - c - b)%4294967296=out at*
       generalize (if x<c+b then 1 else 0)=j9 at*
       have st:=oW o' (off+i) out
       have iz:=m3 out (show off+i<o'.length by omega)
       rw[ja,iU] at iz
       have eN:=LV (p:=c) (pl:=c) (c':=0) (y:=0) (g:=g) iz mT (by omega) (by omega) aF rfl
       rw[Nat.mul_zero,Nat.add_zero,Nat.mod_eq_of_lt w7] at eN
       have Xa:c<18446744073709551616:=by omega
       have Xb:c/4294967296=0:=Nat.div_eq_of_lt mL
       clear mT iz aF
       have H:=j2 a8 dT fp n' go sz p2 st t Xa mL Xb
       have K:=kE f0 f1 f2 f7 f8 f9 f10 f13 f14 f15 f20;clear f0 f1 f2 f7 f8 f9 f10 f13 f14 f15 f20
       repeat' (first|refine ak ?_|refine al ?_|((first|refine b4 ?_|refine b5 ?_|refine b6 ?_|exact ao|refine an ?_);try(refine ar [0,1,2,7,8,9,10,13,14,15,20] fun F k=>?_;replace K:=k;clear k))|(refine aq (fun I=>?_) (fun I=>?_)<;>first|(exfalso;simp(disch:=omega) [H] at I;done)|(exfalso;simp at I;omega)|simp at I)|exact aB|refine aA ?_|exact aD|refine aC ?_|exact trivial)
       all_goals obtain⟨f0,f1,f2,f7,f8,f9,f10,f13,f14,f15,f20⟩:=K
       refine⟨o'.set (off+i) out,0,j9,by rw[List.length_set];exact ol,m4 os s8,fun j aO=>?_,by decide,sf,fun _=>rfl,by rw[Nat.mod_eq_of_lt (Nat.lt_of_lt_of_le w7 (mb (by omega))),w8];exact eN,f7,f8,ji.put _ _ _ (by omega),K.put _ _ (by omega)⟩
       rw[ns _ _ (by omega),if_neg (by omega)]
       exact lT j aO
   · obtain rfl:i=n+1:=by omega
     have H:=trivial
     have K:=kE f0 f1 f2 f7 f8 f9 f10 f13 f14 f15 f20;clear f0 f1 f2 f7 f8 f9 f10 f13 f14 f15 f20
     repeat' (first|refine ak ?_|refine al ?_|((first|refine b4 ?_|refine b5 ?_|refine b6 ?_|exact ao|refine an ?_);try(refine ar [0,1,2,7,8,9,10,13,14,15,20] fun F k=>?_;replace K:=k;clear k))|(refine aq (fun I=>?_) (fun I=>?_)<;>first|(exfalso;simp(disch:=omega) [H] at I;done)|(exfalso;simp at I;omega)|simp at I)|exact aB|refine aA ?_|exact aD|refine aC ?_|exact trivial)
     all_goals obtain⟨f0,f1,f2,f7,f8,f9,f10,f13,f14,f15,f20⟩:=K
     exact ⟨o',c,b,ol,os,lT,mL,p1,Ed,aF,f7,f8,ji.bump _ _ (by omega),K.bump _ (by omega)⟩
 · rintro s ag ⟨o',c,b,ol,os,lT,mL,p1,Ed,aF,eK,eT,ji,K⟩
   clear f7 f8 f14
   have f8:=eT
   have jf:=Ed (by omega)
   rw[jf,Nat.zero_add,Nat.mod_eq_of_lt (Nat.lt_of_lt_of_le w7 (mb (by omega)))] at aF
   have K:=f8;clear f8
   refine bU [6,8] fun F k=>?_;clear K
   obtain⟨f6,f8⟩:=k
   have H:=trivial
   have K:=bN f6 f8;clear f6 f8
   repeat' (first|refine ak ?_|refine al ?_|((first|refine b4 ?_|refine b5 ?_|refine b6 ?_|exact ao|refine an ?_);try(refine ar [6,8] fun F k=>?_;replace K:=k;clear k))|(refine aq (fun I=>?_) (fun I=>?_)<;>first|(exfalso;simp(disch:=omega) [H] at I;done)|(exfalso;simp at I;omega)|simp at I)|exact aB|refine aA ?_|exact aD|refine aC ?_|exact trivial)
   all_goals obtain⟨f6,f8⟩:=K
   try refine ca ?_
   exact ⟨trivial,F 6,rfl,o',b,f6,ol,os,lT,p1,aF,ji.bump _ _ (by omega),K.bump _ (by omega)⟩
def Mh (h:af) (id off n Yv:Nat) (o:List Nat) (i:Nat) (s:aW):Prop:=∃o' c,o'.length=o.length/\Small o'/\(∀j,j<off\/off+n<=j->aP o' j=aP o j)/\c<=1/\val o'+ah off*ah i*c=val o+ah off*(Yv%ah i)/\
 s.F 4=bx c/\fq s.h id o'/\lS id h s.h
theorem Xc (Y:List cR) (h:af) {id ry off n cap Yv:Nat} {o:List Nat} (V:fq h id o) (W:fq h ry (ad Yv)) (bV:ry≠id) (az:(ad Yv).length=n) (r7:0<n) (fB:Small o) (iV:off+n+1<=o.length) (aG:o.length<=1000000000):
 ∃v h',eP G (aR Tryz.prog) jR Y (.fn 263) [.ref id off (n+1) cap,.ref ry 0 n n] h=some (v,h')/\
  ∃o' d,v= .bD []/\o'.length=o.length/\Small o'/\(∀j,j<off\/off+n<j->aP o' j=aP o j)/\val o'+ah off*ah (n+1)*d=val o+ah off*Yv/\fq h' id o'/\lS id h h':=by
 refine j0 JL ?_
 have a2:=dZ Yv
 have w7:Yv<ah n:=cN.1 (by omega)
 have w8:∀i,ah off*ah (i+1)=ah off*ah i*4294967296:=fun i=>by rw[et,Nat.mul_assoc]
 unfold i263
 refine aX [0,1,4,5,7,8,9] fun F K=>?_
 obtain⟨f0,f1,f4,f5,f7,f8,f9⟩:=K
 have H:=trivial
 have K:=dN f0 f1 f4 f5 f7 f8 f9;clear f0 f1 f4 f5 f7 f8 f9
 repeat' (first|refine ak ?_|refine al ?_|((first|refine b4 ?_|refine b5 ?_|refine b6 ?_|exact ao|refine an ?_);try(refine ar [0,1,4,5,7,8,9] fun F k=>?_;replace K:=k;clear k))|(refine aq (fun I=>?_) (fun I=>?_)<;>first|(exfalso;simp(disch:=omega) [H] at I;done)|(exfalso;simp at I;omega)|simp at I)|exact aB|refine aA ?_|exact aD|refine aC ?_|exact trivial)
 all_goals obtain⟨f0,f1,f4,f5,f7,f8,f9⟩:=K
 refine ix n (fun i s=>Mh h id off n Yv o i s/\s.F 8=a4 i) (Mh h id off n Yv o n) (fun _=>False) ?_ ?_ ?_ (fun _ _ h=>h.elim)
 · exact ⟨⟨o,0,rfl,fB,fun _ _=>rfl,by decide,by simp[fA,Nat.mod_one],f4,V.bump _ _ (by omega),(lS.refl id h).bump _ (by omega)⟩,f8⟩
 · rintro i s ab ag ⟨⟨o',c,ol,os,lT,mL,aF,kb,ji,K⟩,eT⟩
   replace f0:=(ag 0 rfl).trans f0;replace f1:=(ag 1 rfl).trans f1;replace f7:=(ag 7 rfl).trans f7
   clear f4 f8
   have f4:=kb
   have f8:=eT
   have Xd:=ji.dj
   have w9:=Nat.lt_of_lt_of_le W.dj K.next
   have K:=bH f0 f1 f4 f7 f8;clear f0 f1 f4 f7 f8
   refine bU [0,1,4,5,7,8,9] fun F k=>?_;clear K
   obtain⟨f0,f1,f4,f5,f7,f8,f9⟩:=k
   by_cases a8:i<n
   · have ae:=os.aP (off+i)
     have go:=kf (show off+i<o'.length by omega)
     have sz:=kI (show 0<o'.length by omega)
     have dT:=ji.cells
     have fp:=ji.b9
     have n':s.h.cells ry=some (bm (ad Yv)):=by rw[K.cells ry W.dj bV];exact W.cells
     have p2:=kI (show 0<(ad Yv).length by omega)
     have Mg:=a2.aP i
     have oa:=kf (show i<(ad Yv).length by omega)
     have lf:=iy Yv i
     generalize ja:aP o' (off+i)=x at*
     generalize aP (ad Yv) i=y at*
     have t:=KA (x:=x) (y:=y) (c:=c) ae Mg mL
     have mT:x+y+c=4294967296*((x+y+c)/4294967296)+(x+y+c)%4294967296:=(Nat.div_add_mod _ _).symm
     have s8:(x+y+c)%4294967296<4294967296:=Nat.mod_lt _ (by decide)
     have Cj:(x+y+c)/4294967296<=1:=by omega
     generalize (x+y+c)%4294967296=out at*
     generalize (x+y+c)/4294967296=c' at*
     have st:=oW o' (off+i) out
     have iz:=m3 out (show off+i<o'.length by omega)
     rw[ja,iU] at iz
     have eN:=LW iz mT aF rfl
     rw[lf,<-mc] at eN
     have Xe:i<n+1:=by omega
     clear mT iz aF lf
     have H:=kF a8 Xe dT fp n' go oa sz p2 st t Xd w9
     have K:=dN f0 f1 f4 f5 f7 f8 f9;clear f0 f1 f4 f5 f7 f8 f9
     repeat' (first|refine ak ?_|refine al ?_|((first|refine b4 ?_|refine b5 ?_|refine b6 ?_|exact ao|refine an ?_);try(refine ar [0,1,4,5,7,8,9] fun F k=>?_;replace K:=k;clear k))|(refine aq (fun I=>?_) (fun I=>?_)<;>first|(exfalso;simp(disch:=omega) [H] at I;done)|(exfalso;simp at I;omega)|simp at I)|exact aB|refine aA ?_|exact aD|refine aC ?_|exact trivial)
     all_goals obtain⟨f0,f1,f4,f5,f7,f8,f9⟩:=K
     refine⟨o'.set (off+i) out,c',by rw[List.length_set];exact ol,m4 os s8,fun j aO=>?_,Cj,by rw[w8 i];exact eN,f4,ji.put _ _ _ (by omega),K.put _ _ (by omega)⟩
     rw[ns _ _ (by omega),if_neg (by omega)]
     exact lT j aO
   · obtain rfl:i=n:=by omega
     have H:=trivial
     have K:=dN f0 f1 f4 f5 f7 f8 f9;clear f0 f1 f4 f5 f7 f8 f9
     repeat' (first|refine ak ?_|refine al ?_|((first|refine b4 ?_|refine b5 ?_|refine b6 ?_|exact ao|refine an ?_);try(refine ar [0,1,4,5,7,8,9] fun F k=>?_;replace K:=k;clear k))|(refine aq (fun I=>?_) (fun I=>?_)<;>first|(exfalso;simp(disch:=omega) [H] at I;done)|(exfalso;simp at I;omega)|simp at I)|exact aB|refine aA ?_|exact aD|refine aC ?_|exact trivial)
     all_goals obtain⟨f0,f1,f4,f5,f7,f8,f9⟩:=K
     exact ⟨o',c,ol,os,lT,mL,aF,f4,ji.bump _ _ (by omega),K.bump _ (by omega)⟩
 · rintro s ag ⟨o',c,ol,os,lT,mL,aF,kb,ji,K⟩
   replace f0:=(ag 0 rfl).trans f0;replace f1:=(ag 1 rfl).trans f1
   clear f4 f8
   have f4:=kb
   have ae:=os.aP (off+n)
   have go:=kf (show off+n<o'.length by omega)
   have sz:=kI (show 0<o'.length by omega)
   have dT:=ji.cells
   have fp:=ji.b9
   generalize ja:aP o' (off+n)=x at*
   have mT:x+0+c=4294967296*((x+c)/4294967296)+(x+c)%4294967296:=(Nat.div_add_mod _ _).symm
   have s8:(x+c)%4294967296<4294967296:=Nat.mod_lt _ (by decide)
   have st:=oW o' (off+n) ((x+c)%4294967296)
   have iz:=m3 ((x+c)%4294967296) (show off+n<o'.length by omega)
   rw[ja,iU] at iz
   have eN:=LW (y:=0) iz mT aF rfl
   rw[Nat.mul_zero,Nat.add_zero,Nat.mod_eq_of_lt w7,<-w8] at eN
   have Xf:∀j,j<off\/off+n<j->aP (o'.set (off+n) ((x+c)%4294967296)) j=aP o j:=fun j aO=>by
    rw[ns _ _ (by omega),if_neg (by omega)]
    exact lT j (by omega)
   have Xg:=m4 (j:=off+n) os s8
   have Xh:(o'.set (off+n) ((x+c)%4294967296)).length=o.length:=by rw[List.length_set];exact ol
   clear mT iz aF
   generalize (x+c)/4294967296=Mi at*
   have K:=bI f0 f1 f4;clear f0 f1 f4
   refine bU [0,1,4] fun F k=>?_;clear K
   obtain⟨f0,f1,f4⟩:=k
   have H:=bH dT fp go sz st
   have K:=bI f0 f1 f4;clear f0 f1 f4
   repeat' (first|refine ak ?_|refine al ?_|((first|refine b4 ?_|refine b5 ?_|refine b6 ?_|exact ao|refine an ?_);try(refine ar [0,1,4] fun F k=>?_;replace K:=k;clear k))|(refine aq (fun I=>?_) (fun I=>?_)<;>first|(exfalso;simp(disch:=omega) [H] at I;done)|(exfalso;simp at I;omega)|simp at I)|exact aB|refine aA ?_|exact aD|refine aC ?_|exact trivial)
   all_goals obtain⟨f0,f1,f4⟩:=K
   try refine And.intro trivial ?_
   exact ⟨.bD [],rfl,rfl,_,Xh,Xg,Xf,⟨Mi,eN⟩,ji.put _ _ _ (by omega),K.put _ _ (by omega)⟩
end
end
section
open Go Go.Eng Go.RowKit
theorem Xi {P:Program} {G:Nat->Option J} {f:FuncId} {A:Type} {pre:A->Prop} {enc:A->List J} {out:A->J} (inj:∀a b,enc a=enc b->out a=out b) (q:A->Prop)
 (U:a3 P G f (bu (fun a=>pre a/\q a) enc out)) (h2:a3 P G f (bu (fun a=>pre a/\¬q a) enc out)):a3 P G f (bu pre enc out):=by
 intro args v c6
 obtain⟨a,aV,aa,rfl⟩:=wi c6
 by_cases aT:q a
 · exact U args (out a) (bM inj a ⟨aV,aT⟩ aa.symm)
 · exact h2 args (out a) (bM inj a ⟨aV,aT⟩ aa.symm)
theorem Xj {P ob s9 W Y lw zG g:Nat} (mD:Y=ob*P+zG) (aeF:zG<P) (lL:W=s9*P+lw) (aeG:lw<P) (s_:4294967296<=ob) (bF:W<4294967296*Y) (ba:g=min (s9/ob) 4294967295):W/Y<=g/\g<=W/Y+1/\W/Y<=4294967295:=by
 have nc:0<P:=by omega
 have Mj:0<Y:=by rw[mD];exact Nat.add_pos_left (Nat.mul_pos (by omega) nc) _
 have aT:=Nat.div_mul_le_self W Y
 have K3:=Nat.lt_succ_of_le (Nat.le_refl (W/Y))
 have aeH:W/Y<4294967296:=by rw[Nat.div_lt_iff_lt_mul Mj];exact bF
 have aeI:W<(W/Y+1)*Y:=by
  have:=Nat.div_add_mod W Y
  have:=Nat.mod_lt W Mj
  rw[Nat.add_mul,Nat.mul_comm (W/Y)];omega
 generalize W/Y=Q at*
 have U:Q<=s9/ob:=by
  rw[Nat.le_div_iff_mul_le (by omega)]
  have e:Q*ob*P<=Q*Y:=by rw[mD,Nat.mul_add,Nat.mul_assoc];omega
  have ax:Q*ob*P<(s9+1)*P:=by rw[Nat.add_mul];omega
  have:=Nat.lt_of_mul_lt_mul_right ax
  omega
 have BR:g*ob<=s9:=by
  have:g<=s9/ob:=by rw[ba];exact Nat.min_le_left _ _
  exact (Nat.le_div_iff_mul_le (by omega)).1 this
 have Xk:g<=4294967295:=by rw[ba];exact Nat.min_le_right _ _
 refine⟨by rw[ba];omega,?_,by omega⟩
 have au:g*Y<W+Y:=by
  have ax:g*Y=g*ob*P+g*zG:=by rw[mD,Nat.mul_add,Nat.mul_assoc]
  have a9:g*ob*P<=s9*P:=Nat.mul_le_mul_right P BR
  have bX:g*zG<=4294967295*P:=Nat.mul_le_mul Xk (by omega)
  have fc:4294967296*P<=ob*P:=Nat.mul_le_mul_right P s_
  rw[ax]
  omega
 have ax:g*Y<(Q+2)*Y:=by
  have:(Q+2)*Y=(Q+1)*Y+Y:=by grind
  omega
 have:=Nat.lt_of_mul_lt_mul_right ax
 omega
theorem Xl {s':List Nat} (aE:Small s') {i n:Nat} (az:2<=n) (oZ:val s'<ah (i+n+1)):val s'/ah i/ah (n - 2)=two (two (aP s' (i+n)) (aP s' (i+n - 1))) (aP s' (i+n - 2)):=by
 rw[pM aE,pM aE,pM aE]
 obtain⟨p,rfl⟩:∃p,n=p+2:=⟨n - 2,by omega⟩
 rw[show i+(p+2) - 1=(i+p)+1 by omega,show i+(p+2) - 2=i+p by omega,show i+(p+2)=(i+p)+1+1 by omega,show p+2 - 2=p by omega,Nat.div_div_eq_div_mul,<-iU,q2,q2]
 rw[show i+(p+2)+1=(i+p)+3 by omega,iU,show ah 3=4294967296*4294967296*4294967296 by simp only[et,fA],Nat.mul_comm] at oZ
 have:=(Nat.div_lt_iff_lt_mul (jO (i+p))).2 oZ
 generalize val s'/ah (i+p)=u at*
 simp only[two]
 omega
theorem Xm {Y n:Nat} (az:2<=n) (mD:Y<ah n):Y/ah (n - 2)=two (aP (ad Y) (n - 1)) (aP (ad Y) (n - 2)):=by
 rw[iy,iy]
 obtain⟨p,rfl⟩:∃p,n=p+2:=⟨n - 2,by omega⟩
 rw[show p+2 - 1=p+1 by omega,show p+2 - 2=p by omega,q2]
 rw[iU,show ah 2=4294967296*4294967296 by simp only[et,fA],Nat.mul_comm] at mD
 have:=(Nat.div_lt_iff_lt_mul (jO p)).2 mD
 generalize Y/ah p=u at*
 simp only[two]
 omega
theorem Xn {X pw Y P pG g b Q:Nat} (nc:0<P) (mD:0<Y) (dM:Q=X/P/Y) (U:Q<=g) (h2:g<=Q+1) (aF:pw+P*(g*Y)=X+P*pG*b) (aa:b<=1) (oZ:pw<P*pG) (aeJ:X<P*pG):
 (b=0->g=Q/\pw+P*(Q*Y)=X)/\(b=1->g=Q+1/\∀zH d,zH+P*pG*d=pw+P*Y->zH<P*pG->zH+P*(Q*Y)=X)/\X<P*((Q+1)*Y)/\P*(Q*Y)<=X:=by
 have bk:=Nat.div_add_mod X P
 have hm:=Nat.mod_lt X nc
 have yY:=Nat.div_add_mod (X/P) Y
 have LF:=Nat.mod_lt (X/P) mD
 rw[<-dM] at yY
 have bL:P*(Q*Y)<=X:=by
  have:P*(Q*Y)<=P*(X/P):=Nat.mul_le_mul_left P (by rw[Nat.mul_comm];omega)
  omega
 have cj:X<P*((Q+1)*Y):=by
  have e:X/P+1<=(Q+1)*Y:=by rw[Nat.add_mul,Nat.mul_comm Q];omega
  have:=Nat.mul_le_mul_left P e
  rw[Nat.mul_add] at this
  omega
 refine⟨fun h=>?_,fun h=>?_,cj,bL⟩
 · subst h
   rw[Nat.mul_zero,Nat.add_zero] at aF
   have:g=Q:=by
    refine Nat.le_antisymm ?_ U
    refine Nat.le_of_not_lt fun bF=>?_
    have e:P*((Q+1)*Y)<=P*(g*Y):=Nat.mul_le_mul_left P (Nat.mul_le_mul_right Y bF)
    omega
   subst this
   exact ⟨rfl,aF⟩
 · subst h
   rw[Nat.mul_one] at aF
   have:g=Q+1:=by
    refine Nat.le_antisymm h2 ?_
    refine Nat.lt_of_le_of_ne U fun he=>?_
    subst he
    omega
   subst this
   refine⟨rfl,fun zH d aN a8=>?_⟩
   have e:P*((Q+1)*Y)=P*(Q*Y)+P*Y:=by rw[Nat.add_mul,Nat.one_mul,Nat.mul_add]
   have Xo:d=1:=by
    rcases Nat.lt_trichotomy d 1 with h|h|h
    · have:d=0:=by omega
      subst this
      omega
    · exact h
    · have:P*pG*2<=P*pG*d:=Nat.mul_le_mul_left _ h
      have a9:P*Y<=P*((Q+1)*Y):=by rw[e];omega
      omega
   subst Xo
   omega
end
section
set_option maxHeartbeats 8000000
open Go Go.Eng Go.RowKit
attribute [local simp] a_.m a_.o a_.n a_.g e6 ez c2 cE c4 evalOp.eq_1 evalOp.eq_2 evalOp.eq_3 evalOp.eq_4 evalOp.eq_5 evalOp.eq_6 evalOp.eq_7 evalOp.eq_8 evalOp.eq_9 evalOp.eq_10 evalOp.eq_11 evalOp.eq_12 evalOp.eq_13 evalOp.eq_14 evalOp.eq_15 evalOp.eq_16 evalOp.eq_17 evalOp.eq_18 evalOp.eq_19 evalOp.eq_20 evalOp.eq_21 evalOp.eq_22 evalOp.eq_23 evalOp.eq_24 evalOp.eq_25 evalOp.eq_27 evalOp.eq_28 evalOp.eq_29 ie a6.ev cD aw af.new dW J.cells J.ch J.dO J.dJ gk gm gl gn gq gp hA hB hC ft fu cut partOf bound elems hE hF hG hH hI hJ hK hL hM hN hO hP fJ hQ hR hS hT hU hV hW hX hY hZ h0 h1 h3 h4 h5 h6 h7 h8 h9 h_ ia ib ic ey eh d_ e1 gr fS af.close af.set fU ig ih ij hD fT fR fy ee fH ga fh fI gb gd gf eY eZ e0 eW gu bP f_ gv f' gw gx eQ gy eR gz gA gB fl hz gC gD gE gF gG gH gI gJ gK gL gM gN gO gP gQ gR gS gT gU fx gV gW gX gY gZ g0 g1 g2 g3 g4 g5 g6 g7 g8 g9
attribute [local simp high] hv hx hy g_ g' ha hb hc hd hf hg hh hi hj hk hl hn ho hp hq hr hs ht
attribute [local simp] aQ List.getElem?_cons_zero List.getElem?_cons_succ dC cA fg Nat.mod_eq_of_lt iE iF iG iH fm iI iJ iK
section
attribute [local irreducible] br
attribute [local simp] di db cB
noncomputable def zI:FuncId->Option (List J->Option J):=cT [(171,nt),(259,uL),(170,kH)]
theorem Xp:∀f T,zI f=some T->a3 Tryz.prog G f T:=cX (by simp only[List.forall_mem_cons];exact ⟨wD,Lw,pQ,fun _ h=>absurd h (by simp)⟩)
theorem Xq:zI 171=some nt:=rfl
theorem Xr:zI 259=some uL:=rfl
theorem Xs:zI 170=some kH:=rfl
attribute [local simp] Xq Xr Xs
noncomputable def zJ:List J->Option J:=bu (fun z:Nat × Nat=>(ad z.1).length<=10000000/\(ad z.2).length<=10000000) (fun z=>[ai z.1,ai z.2]) (fun z=>if z.2=0 then .bD [.sl [] false,.sl [] false,a4 3] else .bD [ai (z.1/z.2),ai (z.1%z.2),a4 0])
theorem Xt (z:Nat × Nat) (h:(ad z.1).length<=10000000/\(ad z.2).length<=10000000) {args:List J} (he:args.map J.loose= [ai z.1,ai z.2]):zJ args=some (if z.2=0 then .bD [.sl [] false,.sl [] false,a4 3] else .bD [ai (z.1/z.2),ai (z.1%z.2),a4 0]):=bM (fun z w h=>by simp only[List.cons.injEq,J.int.injEq,J.bool.injEq,J.sl.injEq,cI,cH,cU,cV,cP,bY,cf,cO,bP,true_and,and_true] at h;simp[h]) z h he
def w_ (z:Nat × Nat):Prop:=z.2=0\/z.1<z.2\/(ad z.2).length<=1
theorem Xu:a3 Tryz.prog G 205 (bu (fun z:Nat × Nat=>((ad z.1).length<=10000000/\(ad z.2).length<=10000000)/\w_ z) (fun z=>[ai z.1,ai z.2]) (fun z=>if z.2=0 then .bD [.sl [] false,.sl [] false,a4 3] else .bD [ai (z.1/z.2),ai (z.1%z.2),a4 0])):=by
 refine bK mixed Xp CJ fun z ay=>?_
 obtain⟨a,b⟩:=z
 obtain⟨⟨bQ,bm⟩,aT⟩:=ay
 simp only[w_] at bQ bm aT|-
 unfold i205
 have eu:=e_
 by_cases c8:b=0
 · rw[if_pos c8]
   subst c8
   refine aX [0,1,4,5,6,7,8,10,11,12,13,14,15,16,17,21,27,61,76,119] fun F K=>?_
   obtain⟨f0,f1,f4,f5,f6,f7,f8,f10,f11,f12,f13,f14,f15,f16,f17,f21,f27,f61,f76,f119⟩:=K
   have H:=eu
   have K:=yy f0 f1 f4 f5 f6 f7 f8 f10 f11 f12 f13 f14 f15 f16 f17 f21 f27 f61 f76 f119;clear f0 f1 f4 f5 f6 f7 f8 f10 f11 f12 f13 f14 f15 f16 f17 f21 f27 f61 f76 f119
   repeat' (first|refine ak ?_|refine al ?_|((first|refine aI ?_|refine aJ ?_|refine aK ?_|exact ao|refine an ?_);try(refine ar [0,1,4,5,6,7,8,10,11,12,13,14,15,16,17,21,27,61,76,119] fun F k=>?_;replace K:=k;clear k))|(refine aq (fun I=>?_) (fun I=>?_)<;>first|(exfalso;simp(disch:=omega) [H] at I;done)|(exfalso;simp at I;omega)|simp at I)|exact aB|refine aA ?_|exact aD|refine aC ?_|exact trivial)
   all_goals obtain⟨f0,f1,f4,f5,f6,f7,f8,f10,f11,f12,f13,f14,f15,f16,f17,f21,f27,f61,f76,f119⟩:=K
 rw[if_neg c8]
 have k6:(ad b).length≠0:=by have:=lM.2 c8;omega
 have p3:ad b≠ []:=fun h=>c8 (j4.1 h)
 have mI:=wC (a:=a) (b:=b) (e:=false) (e':=false) (by omega) (by omega)
 by_cases bF:a<b
 · have mJ:eg a b= -1:=by simp[eg,bF]
   rw[mJ] at mI
   rw[Nat.div_eq_of_lt bF,Nat.mod_eq_of_lt bF]
   have w':((-1:Int)<Z 0)=True:=by simp[Z]
   refine aX [0,1,4,5,6,7,8,10,11,12,13,14,15,16,17,21,27,61,76,119] fun F K=>?_
   obtain⟨f0,f1,f4,f5,f6,f7,f8,f10,f11,f12,f13,f14,f15,f16,f17,f21,f27,f61,f76,f119⟩:=K
   have H:=bH mI k6 p3 w' eu
   have K:=yy f0 f1 f4 f5 f6 f7 f8 f10 f11 f12 f13 f14 f15 f16 f17 f21 f27 f61 f76 f119;clear f0 f1 f4 f5 f6 f7 f8 f10 f11 f12 f13 f14 f15 f16 f17 f21 f27 f61 f76 f119
   repeat' (first|refine ak ?_|refine al ?_|((first|refine aI ?_|refine aJ ?_|refine aK ?_|exact ao|refine an ?_);try(refine ar [0,1,4,5,6,7,8,10,11,12,13,14,15,16,17,21,27,61,76,119] fun F k=>?_;replace K:=k;clear k))|(refine aq (fun I=>?_) (fun I=>?_)<;>first|(exfalso;simp(disch:=omega) [H] at I;done)|(exfalso;simp at I;omega)|simp at I)|((first|refine ca ?_|refine dq ?_);simp(disch:=omega) [H,K,eu])|exact trivial)
   all_goals obtain⟨f0,f1,f4,f5,f6,f7,f8,f10,f11,f12,f13,f14,f15,f16,f17,f21,f27,f61,f76,f119⟩:=K
 · have mJ:(eg a b<Z 0)=False:=by
    simp only[eg,if_neg bF,Z];split<;>simp
   generalize eg a b=y3 at*
   have HG:(ad b).length=1:=by omega
   have p1:b<4294967296:=by
    have:=cN.1 (show (ad b).length<=1 by omega)
    rwa [et,fA,Nat.one_mul] at this
   have jQ:=(kp (show 0<(ad b).length by omega)).symm
   rw[iy,fA,Nat.div_one,Nat.mod_eq_of_lt p1] at jQ
   have eB:=V6 (a,b) ⟨show (ad a).length<=100000000 by omega,p1⟩ (args:=[ai a,bx b]) (by simp)
   simp only[if_neg c8] at eB
   have Xv:a%b<4294967296:=Nat.lt_trans (Nat.mod_lt _ (Nat.pos_of_ne_zero c8)) p1
   have cZ:=oR (l:=[a%b]) (e:=true) (lz.2 ⟨Xv,Small.nil⟩) (by simp)
   rw[show val [a%b]=a%b by simp[val]] at cZ
   simp only[List.map_cons,List.map_nil] at cZ
   generalize a/b=q at*
   generalize a%b=r at*
   refine aX [0,1,4,5,6,7,8,10,11,12,13,14,15,16,17,21,27,61,76,119] fun F K=>?_
   obtain⟨f0,f1,f4,f5,f6,f7,f8,f10,f11,f12,f13,f14,f15,f16,f17,f21,f27,f61,f76,f119⟩:=K
   have H:=e7 mI k6 p3 mJ HG jQ eB cZ
   have K:=yy f0 f1 f4 f5 f6 f7 f8 f10 f11 f12 f13 f14 f15 f16 f17 f21 f27 f61 f76 f119;clear f0 f1 f4 f5 f6 f7 f8 f10 f11 f12 f13 f14 f15 f16 f17 f21 f27 f61 f76 f119
   repeat' (first|refine ak ?_|refine al ?_|((first|refine aI ?_|refine aJ ?_|refine aK ?_|exact ao|refine an ?_);try(refine ar [0,1,4,5,6,7,8,10,11,12,13,14,15,16,17,21,27,61,76,119] fun F k=>?_;replace K:=k;clear k))|(refine aq (fun I=>?_) (fun I=>?_)<;>first|(exfalso;simp(disch:=omega) [H] at I;done)|(exfalso;simp at I;omega)|simp at I)|exact aB|refine aA ?_|exact aD|refine aC ?_|exact trivial)
   all_goals obtain⟨f0,f1,f4,f5,f6,f7,f8,f10,f11,f12,f13,f14,f15,f16,f17,f21,f27,f61,f76,f119⟩:=K
end
end
section
set_option maxHeartbeats 8000000
open Go Go.Eng Go.RowKit
theorem Xw {b n t:Nat} (az:0<n) (aa:(ad b).length=n) (aY:t=b/ah (n - 1)):
 t<4294967296/\32 - dS t<=31/\b*2^(32 - dS t)<ah n/\ah n<=2*(b*2^(32 - dS t))/\(ad (b*2^(32 - dS t))).length=n:=by
 obtain⟨p,rfl⟩:∃p,n=p+1:=⟨n - 1,by omega⟩
 rw[Nat.add_sub_cancel] at aY
 have U:b<ah (p+1):=cN.1 (by omega)
 have h2:ah p<=b:=Nat.le_of_not_lt fun h=>by have:=cN.2 h;omega
 have nc:=jO p
 have t0:t≠0:=by
  have:0<t:=by rw[aY];exact Nat.div_pos h2 nc
  omega
 have t9:t<4294967296:=by rw[aY,Nat.div_lt_iff_lt_mul nc,Nat.mul_comm,<-et];exact U
 have cp:dS t<=32:=oQ.2 t9
 have ea:dS t≠0:=fun h=>t0 (Td.1 h)
 have kc:t<2^dS t:=oQ.1 (Nat.le_refl _)
 have n7:2^(dS t - 1)<=t:=J7.1 (by omega)
 obtain⟨k,ag⟩:∃k,dS t=k+1:=⟨dS t - 1,by omega⟩
 rw[ag] at cp kc n7|-
 rw[show k+1 - 1=k by omega] at n7
 have bk:=Nat.div_add_mod b (ah p)
 have hm:=Nat.mod_lt b nc
 rw[<-aY] at bk
 generalize b%ah p=u at*
 have lE:b*2^(32 -(k+1))<ah (p+1):=by
  have e:b<ah p*2^(k+1):=by
   have:=Nat.mul_le_mul_left (ah p) (show t+1<=2^(k+1) from kc)
   rw[Nat.mul_add] at this
   omega
  have:=Nat.mul_lt_mul_of_pos_right e (Nat.pow_pos (n:=32 -(k+1)) (show 0<2 by decide))
  rw[Nat.mul_assoc,<-Nat.pow_add,show k+1+(32 -(k+1))=32 by omega] at this
  rw[et]
  exact this
 have lb:ah (p+1)<=2*(b*2^(32 -(k+1))):=by
  have e:ah p*2^k<=b:=by
   have:=Nat.mul_le_mul_left (ah p) n7
   omega
  have:=Nat.mul_le_mul_right (2*2^(32 -(k+1))) e
  rw[Nat.mul_assoc,Nat.mul_left_comm (2^k),<-Nat.pow_add,show k+(32 -(k+1))=31 by omega] at this
  rw[et]
  have ax:ah p*(2*2^31)=ah p*4294967296:=by simp
  rw[ax,Nat.mul_left_comm] at this
  exact this
 refine⟨t9,by omega,lE,lb,?_⟩
 have v1:=cN.2 lE
 have v2:¬(ad (b*2^(32 -(k+1)))).length<=p:=fun h=>by
  have:=cN.1 h
  rw[et] at lb
  omega
 omega
theorem Xx {a A s fk:Nat} (bg:(ad a).length=A) (aE:s<=31) (l4:a*2^s=fk) (eC:a≠0):A<=(ad fk).length/\(ad fk).length<=A+1/\fk<ah A*2147483648:=by
 have U:a<ah A:=cN.1 (by omega)
 have h2:2^s<=2147483648:=Nat.pow_le_pow_right (n:=2) (by decide) aE
 have aN:0<2^s:=Nat.pow_pos (by decide)
 have a8:fk<ah A*2147483648:=by
  rw[<-l4]
  exact Nat.lt_of_lt_of_le (Nat.mul_lt_mul_of_pos_right U aN) (Nat.mul_le_mul_left _ h2)
 have cr:a<=fk:=by rw[<-l4];exact Nat.le_mul_of_pos_right a aN
 refine⟨?_,cN.2 (by rw[et];exact Nat.lt_of_lt_of_le a8 (Nat.mul_le_mul_left _ (by decide))),a8⟩
 refine Nat.le_of_not_lt fun h=>?_
 have eF:=cN.1 (Nat.le_refl (ad fk).length)
 have r':(ad a).length<=(ad fk).length:=cN.2 (by omega)
 omega
theorem Xy {r:Nat} {h:af} {q n v:Nat} {e:Bool} {o:List Nat} (b8:h.shut q=false) (I:h.cells q=some (bm o)) (az:o.length=n) (aQ:0<n) (aG:n<=1000000000):
 jL r 1 4 h (.ref q 0 n n) (.sl [.int .u32 (Z v)] e)=some (.ref r 0 (n+1) (n+1),⟨aw (aw h.cells q none) r (some (bm (o++ [v]))),h.shut,h.next,h.a7⟩,.wr):=by
 have au:elems h (.sl [.int .u32 (Z v)] e)=some [.int .u32 (Z v)]:=rfl
 have ax:bm (o++ [v])=List.take n (bm o)++ [.int .u32 (Z v)]:=by rw[zi (by omega)];simp[bm]
 unfold jL
 rw[au,ax]
 simp only[Option.bind_some]
 rw[if_pos ⟨by decide,by decide,rfl⟩]
 simp only[List.length_cons,List.length_nil,Nat.zero_add,Nat.reduceAdd,b8,I,Option.bind_some,Bool.false_eq_true,if_false]
 rw[if_neg (by decide),if_pos ⟨by rw[pW];omega,by omega,by decide,Wf o⟩,if_neg (by omega),if_pos ⟨by first|rfl|trivial,aQ⟩]
theorem zK:∀ {o:List Nat},Small o->∀ {k},(∀j,k<=j->aP o j=0)->val o<ah k
 | [],_,k,_=>by simp only[val];exact jO k
 | x::l,aE,0,h=>by
   have aQ:x=0:=by simpa[aP] using h 0 (Nat.le_refl _)
   have U:=zK (lz.1 aE).2 (k:=0) (fun j _=>by simpa[aP] using h (j+1) (Nat.zero_le _))
   rw[fA] at*
   simp only[val];omega
 | x::l,aE,k+1,h=>by
   have aQ:=(lz.1 aE).1
   have U:=zK (lz.1 aE).2 (k:=k) (fun j aO=>by simpa[aP] using h (j+1) (by omega))
   rw[et]
   simp only[val];omega
theorem Mk {o:List Nat} (aE:Small o) {k j:Nat} (h:val o<ah k) (aO:k<=j):aP o j=0:=by
 rw[pM aE,Nat.div_eq_of_lt (Nat.lt_of_lt_of_le h (mb aO))]
def Ml (m n fk Y bJ r q k:Nat) (s:aW):Prop:=(∀j,s.h.shut j=false)/\fq s.h bJ (ad Y)/\∃cm fL,cm.length=m+n/\fL.length=m/\Small cm/\Small fL/\fq s.h r cm/\fq s.h q fL/\(∀j,j<k->aP fL j=0)/\val fL*Y+val cm=fk/\val cm<ah k*Y
theorem Xz {cm:List Nat} {i n Y:Nat} (xs:Small cm) (az:2<=n) (uV:Y<ah n) (s_:ah n<=2*Y) (aF:val cm<ah (i+1)*Y):
 val cm<ah (i+n+1)/\aP cm (i+n)<=aP (ad Y) (n - 1)/\aP (ad Y) (n - 1)≠0/\
 (val cm/ah i/Y<=lR (aP cm (i+n)) (aP cm (i+n - 1)) (aP cm (i+n - 2)) (aP (ad Y) (n - 1)) (aP (ad Y) (n - 2))/\
   lR (aP cm (i+n)) (aP cm (i+n - 1)) (aP cm (i+n - 2)) (aP (ad Y) (n - 1)) (aP (ad Y) (n - 2))<=val cm/ah i/Y+1/\val cm/ah i/Y<=4294967295):=by
 have aS:=jO i
 have oZ:val cm<ah (i+n+1):=by
  rw[show i+n+1=(i+1)+n by omega,iU]
  exact Nat.lt_of_lt_of_le aF (Nat.mul_le_mul_left _ (Nat.le_of_lt uV))
 have lL:val cm/ah i<4294967296*Y:=by
  rw[Nat.div_lt_iff_lt_mul aS,Nat.mul_comm,<-Nat.mul_assoc,<-et];exact aF
 have nc:=jO (n - 2)
 have dd:=Xl xs az oZ
 have cj:=Xm az uV
 have aeK:aP (ad Y) (n - 1)<4294967296:=(dZ Y).aP _
 have jW:aP (ad Y) (n - 2)<4294967296:=(dZ Y).aP _
 have VN:aP cm (i+n - 1)<4294967296:=xs.aP _
 have ja:aP cm (i+n - 2)<4294967296:=xs.aP _
 have rq:4294967296<=Y/ah (n - 2):=by
  rw[Nat.le_div_iff_mul_le nc,Nat.mul_comm,<-et,show n - 2+1=n - 1 by omega]
  have:ah n=ah (n - 1)*4294967296:=by rw[<-et,show n - 1+1=n by omega]
  omega
 have Mm:val cm/ah i/ah (n - 2)<4294967296*(Y/ah (n - 2)+1):=by
  rw[Nat.div_lt_iff_lt_mul nc]
  have U:=Nat.div_add_mod Y (ah (n - 2))
  have h2:=Nat.mod_lt Y nc
  have aN:Y<(Y/ah (n - 2)+1)*ah (n - 2):=by rw[Nat.add_mul,Nat.mul_comm (Y/ah (n - 2))];omega
  rw[Nat.mul_assoc]
  exact Nat.lt_of_lt_of_le lL (Nat.mul_le_mul_left _ (Nat.le_of_lt aN))
 have Mn:=Xj (P:=ah (n - 2)) (Nat.div_add_mod' Y (ah (n - 2))).symm (Nat.mod_lt _ nc) (Nat.div_add_mod' (val cm/ah i) (ah (n - 2))).symm (Nat.mod_lt _ nc) rq lL rfl
 rw[dd,cj] at Mn
 rw[dd,cj] at Mm
 rw[cj] at rq
 refine⟨oZ,?_,?_,Mn⟩
 · generalize aP cm (i+n)=x2 at*
   generalize aP (ad Y) (n - 1)=y1 at*
   simp only[two] at Mm
   omega
 · intro h
   rw[h] at rq
   simp only[two] at rq
   omega
def Mo (L fk Y bJ:Nat) (s:aW):Prop:=(∀j,s.h.shut j=false)/\fq s.h bJ (ad Y)/\∃r cm,s.F 12= .ref r 0 L L/\cm.length=L/\val cm=fk/\Small cm/\r≠bJ/\fq s.h r cm
theorem fq.off {h:af} {p q:Nat} {o:List Nat} (R:fq h p o) (bV:p≠q) (v:Option (List J)) (m:Nat) (kk:Nat->Option fr) (hm:h.next<=m):fq ⟨aw h.cells q v,h.shut,m,kk⟩ p o:=
 ⟨by show aw h.cells q v p=_;simp only[aw,if_neg bV];exact R.cells,R.b9,Nat.lt_of_lt_of_le R.dj hm⟩
theorem lS.vec {id:Nat} {h h':af} (K:lS id h h') {q:Nat} {o:List Nat} (V:fq h q o) (bV:q≠id):fq h' q o:=
 ⟨by rw[K.cells q V.dj bV];exact V.cells,by rw[K.shut];exact V.b9,Nat.lt_of_lt_of_le V.dj K.next⟩
theorem Mp {wY Mq lK Ee P Q Y fk:Nat} (aT:Mq=wY+P*Q) (aF:wY*Y+lK=fk) (ae:Ee+P*(Q*Y)=lK) (bF:lK<P*((Q+1)*Y)):Mq*Y+Ee=fk/\Ee<P*Y:=by
 subst aT
 refine⟨by rw[<-aF,<-ae];grind,?_⟩
 have e:P*((Q+1)*Y)=P*(Q*Y)+P*Y:=by grind
 omega
end
end Go.Proofs.YtemiagcencajeaaGreatDoor
