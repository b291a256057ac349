/- What the claim needs of the walks, put together by a program (shake.py). -/
import Derived.Test.YtemiagcencajeaaGreatDoorXeF
set_option maxRecDepth 100000
set_option linter.unusedSimpArgs false
set_option linter.unusedVariables false
set_option linter.unusedSectionVars false
namespace Go.Proofs.YtemiagcencajeaaGreatDoor
section
set_option maxHeartbeats 8000000
open Go Go.Eng Go.RowKit
theorem LN {je V iV Q P K B x out y g wM c c' b jS p pl:Nat} (U:iV+P*x=V+P*out) (h2:out+pl+b=x+B*jS) (az:p=B*c'+pl) (aT:p=g*y+c) (b9:V+Q*(g*wM)=je+P*(c+b)) (ei:P=Q*K):
 iV+Q*(g*(wM+K*y))=je+P*B*(c'+jS):=by
 have e:P*(out+pl+b)=P*(x+B*jS):=by rw[h2]
 have ao:P*(B*c'+pl)=P*(g*y+c):=by rw[<-az,aT]
 subst ei
 grind
theorem LO {je V iV Q P K B x out y wM c c':Nat} (U:iV+P*x=V+P*out) (h2:x+y+c=B*c'+out) (b9:V+P*c=je+Q*wM) (ei:P=Q*K):
 iV+P*B*c'=je+Q*(wM+K*y):=by
 have e:P*(x+y+c)=P*(B*c'+out):=by rw[h2]
 subst ei
 grind
structure lG (id:Nat) (h h':af):Prop where
 next:h.next<=h'.next
 cells:∀j,j<h.next->j≠id->h'.cells j=h.cells j
 shut:h'.shut=h.shut
 aS:h'.aS=h.aS
theorem lG.bump {id:Nat} {h g:af} (K:lG id h g) (n:Nat) (aq:g.next<=n):lG id h ⟨g.cells,g.shut,n,g.aS⟩:=⟨Nat.le_trans K.next aq,K.cells,K.shut,K.aS⟩
theorem lG.put {id:Nat} {h g:af} (K:lG id h g) (v:Option (List I)) (n:Nat) (aq:g.next<=n):lG id h ⟨an g.cells id v,g.shut,n,g.aS⟩:=
 ⟨Nat.le_trans K.next aq,fun j aA bG=>by simp only[an,if_neg bG];exact K.cells j aA bG,K.shut,K.aS⟩
theorem lG.refl (id:Nat) (h:af):lG id h h:=⟨Nat.le_refl _,fun _ _ _=>rfl,rfl,rfl⟩
end
section
set_option maxHeartbeats 8000000
open Go Go.Eng Go.RowKit
def pJ:List Nat->cU->cU
 | 0::p,.seq a _=>pJ p a
 | _::p,.seq _ b=>pJ p b
 | 0::p,.cond _ a _=>pJ p a
 | _::p,.cond _ _ b=>pJ p b
 | _::p,.block _ c=>pJ p c
 | _::p,.loop c=>pJ p c
 | _,c=>c
def zq:cU:=pJ [1,1,1,1,1,1,1,1,0,1,0,0] i205.body
end
section
set_option maxHeartbeats 8000000
open Go Go.Eng Go.RowKit
theorem Own.later {h g h':af} {v:I} {o:List Nat} (x:Own h g v o) (k:Kept g h'):Own h h' v o:=⟨x.kept.trans k,x.val.imp id fun⟨r,U,h2,V⟩=>⟨r,U,h2,V.kept k⟩⟩
theorem Own.outs {h h':af} {v:I} {o:List Nat} (x:Own h h' v o):∃ids e,∀bR m p,df ⟨h'.cells,bR,m,p⟩ v=some (bY o e,ids)/\ib ⟨h'.cells,bR,m,p⟩ v=some (bY o e,ids)/\iY ⟨h'.cells,bR,m,p⟩ v=some (bY o e,ids):=by
 rcases x.val with⟨rfl,rfl⟩|⟨r,rfl,_,V⟩
 · exact ⟨[],true,fun _ _ _=>⟨rfl,rfl,rfl⟩⟩
 · have e:∀bR m p,df ⟨h'.cells,bR,m,p⟩ (.ref r 0 o.length o.length)=some (bY o false,[r]):=fun bR m p=>by
    rw[fm]
    simp only[V.cells,Nat.zero_add,pE,Nat.le_refl,y3,and_self,if_true,List.drop_zero]
    rw[List.take_of_length_le (by rw[pE];exact Nat.le_refl _)]
    rfl
   exact ⟨[r],false,fun bR m p=>⟨e bR m p,e bR m p,e bR m p⟩⟩
end
section
set_option maxHeartbeats 8000000
open Go Go.Eng Go.RowKit
theorem LP {a b q r:Int} (aa:b≠0) (h:r+b*q=a) (aD:0<=r) (U:r<b.natAbs):a/b=q/\a%b=r:=by
 rcases Int.lt_or_gt_of_ne aa with bq|WA
 · obtain⟨c,rfl⟩:∃c,b= -c:=⟨-b,by omega⟩
   have:=(Int.ediv_emod_unique (a:=a) (b:=c) (r:=r) (q:= -q) (by omega)).2 ⟨by grind,aD,by omega⟩
   rw[Int.ediv_neg,Int.emod_neg]
   omega
 · exact (Int.ediv_emod_unique WA).2 ⟨h,aD,by omega⟩
theorem LQ (a b:Int) (aa:b≠0) (ar:bc a=false\/a.natAbs%b.natAbs=0):
 cC (bc a != bc b) (a.natAbs/b.natAbs)=a/b/\cC false (a.natAbs%b.natAbs)=a%b:=by
 have aK:=sq a
 have qA:=sq b
 have a_:=Nat.div_add_mod a.natAbs b.natAbs
 have hm:=Nat.mod_lt a.natAbs (show 0<b.natAbs by omega)
 generalize ix:b.natAbs=n at*
 generalize a.natAbs=m at*
 generalize m/n=q at*
 generalize m%n=r at*
 generalize bc a=s at*
 generalize bc b=t at*
 have tD:(n:Int)*q+r=m:=by exact_mod_cast a_
 have:=LP (a:=a) (b:=b) (q:=cC (s != t) q) (r:=r) aa (by
  subst aK qA
  rcases ar with rfl|rfl
  · cases t<;>simp[cC]<;>grind
  · cases s<;>cases t<;>simp[cC]<;>grind) (by omega) (by omega)
 exact ⟨this.1.symm,by rw[this.2];simp[cC]⟩
theorem LR (a b:Int) (aa:b≠0) (ef:bc a=true) (aH:a.natAbs%b.natAbs≠0):
 cC (bc a != bc b) (a.natAbs/b.natAbs+1)=a/b/\cC false (b.natAbs - a.natAbs%b.natAbs)=a%b:=by
 have aK:=sq a
 have qA:=sq b
 have a_:=Nat.div_add_mod a.natAbs b.natAbs
 have hm:=Nat.mod_lt a.natAbs (show 0<b.natAbs by omega)
 generalize ix:b.natAbs=n at*
 generalize a.natAbs=m at*
 generalize m/n=q at*
 generalize m%n=r at*
 rw[ef] at aK|-
 generalize bc b=t at*
 have tD:(n:Int)*q+r=m:=by exact_mod_cast a_
 have:=LP (a:=a) (b:=b) (q:=cC (true != t) (q+1)) (r:=((n - r:Nat):Int)) aa (by
  subst aK qA
  rw[Int.ofNat_sub (by omega)]
  cases t<;>simp[cC]<;>grind) (by omega) (by omega)
 exact ⟨this.1.symm,by rw[this.2];simp[cC]⟩
end
section
set_option maxHeartbeats 8000000
open Go Go.Eng Go.RowKit
attribute [local simp] aU.m aU.o aU.n aU.g eM dN cE ch cM evalOp.eq_1 evalOp.eq_2 evalOp.eq_3 evalOp.eq_4 evalOp.eq_5 evalOp.eq_6 evalOp.eq_7 evalOp.eq_8 evalOp.eq_9 evalOp.eq_10 evalOp.eq_11 evalOp.eq_12 evalOp.eq_13 evalOp.eq_14 evalOp.eq_15 evalOp.eq_16 evalOp.eq_17 evalOp.eq_18 evalOp.eq_19 evalOp.eq_20 evalOp.eq_21 evalOp.eq_22 evalOp.eq_23 evalOp.eq_24 evalOp.eq_25 evalOp.eq_27 evalOp.eq_28 evalOp.eq_29 hX aQ.ev cg an af.new ds I.cells I.bW I.dk I.dh fU fW fV fX fZ fY hh hi hj e7 e8 cut partOf bound elems hl hn ho hp hq hr hs ht hv hx hy hz fm hA hB hC hD hE hF hG hH hI hJ hK hL hM hN hO hP hQ hR hS hT hU hV hW dM dC dz eF f_ fz af.close af.set fB hY hZ h0 hk fA fy fa dP fj fL fk fl fM fN fO eC eD eE eB f' bD fJ ga fK gb gd eo gf ep gg gh gi e1 hg gj gk gl gm gn gp gq gr gu gv gw gx gy gz gA gB gC gD gE e_ gF gG gH gI gJ gK gL gM gN gO gP gQ gR gS gT
attribute [local simp high] hc hd hf gU gV gW gX gY gZ g0 g1 g2 g3 g4 g5 g6 g7 g8 g9 g_ g' ha hb
attribute [local simp] aD List.getElem?_cons_zero List.getElem?_cons_succ dc cf eY Nat.mod_eq_of_lt ig ih ij ik e2 il im iq
section
attribute [local irreducible] a7
attribute [local simp] c5 cZ ck K8 K9 wB wC
def LS (h:af) (id off n Yv g:Nat) (o:List Nat) (i:Nat) (s:aI):Prop:=∃o' c b,o'.length=o.length/\Small o'/\(∀j,j<off\/off+n<j->aB o' j=aB o j)/\c<4294967296/\b<=1/\(n<i->c=0)/\val o'+ah off*(g*(Yv%ah i))=val o+ah off*ah i*(c+b)/\
 s.F 7=fb c/\s.F 8=bh b/\fe s.h id o'/\lG id h s.h
theorem WB (Y:List cF) (h:af) {id ry off n cap Yv g:Nat} {o:List Nat} (V:fe h id o) (W:fe h ry (ad Yv)) (bG:ry≠id) (aq:(ad Yv).length=n) (rG:0<n) (fq:Small o) (iF:off+n+1<=o.length) (aw:o.length<=1000000000) (aW:g<4294967296):
 ∃v h',eX G (aE Tryz.prog) jw Y (.fn 262) [.ref id off (n+1) cap,.ref ry 0 n n,fb g] h=some (v,h')/\
  ∃o' b,v= .bool (decide (0<b))/\o'.length=o.length/\Small o'/\(∀j,j<off\/off+n<j->aB o' j=aB o j)/\b<=1/\val o'+ah off*(g*Yv)=val o+ah off*ah (n+1)*b/\fe h' id o'/\lG id h h':=by
 refine j8 Jg ?_
 have aO:=dB Yv
 have wN:Yv<ah n:=ct.1 (by omega)
 have hw:IntKind.i64.wrap (Z n+Z 1)=Z (n+1):=dc (by omega)
 have wO:∀i,ah off*ah (i+1)=ah off*ah i*4294967296:=fun i=>by rw[dR,Nat.mul_assoc]
 unfold i262
 refine aL [0,1,2,6,7,8,9,10,13,14,15,20] fun F K=>?_
 obtain⟨f0,f1,f2,f6,f7,f8,f9,f10,f13,f14,f15,f20⟩:=K
 have H:=hw
 have K:=jK f0 f1 f2 f6 f7 f8 f9 f10 f13 f14 f15 f20;clear f0 f1 f2 f6 f7 f8 f9 f10 f13 f14 f15 f20
 refine cI [0,1,2,6,7,8,9,10,13,14,15,20] fun F k=>?_;clear K H
 obtain⟨f0,f1,f2,f6,f7,f8,f9,f10,f13,f14,f15,f20⟩:=k
 refine iz (n+1) (fun i s=>LS h id off n Yv g o i s/\s.F 14=aR i) (LS h id off n Yv g o (n+1)) (fun _=>False) ?_ ?_ ?_ (fun _ _ h=>h.elim)
 · exact ⟨⟨o,0,0,rfl,fq,fun _ _=>rfl,by decide,by decide,fun _=>rfl,by simp[fp,Nat.mod_one],f7,f8,V.bump _ _ (by omega),(lG.refl id h).bump _ (by omega)⟩,f14⟩
 · rintro i s ab ag ⟨⟨o',c,b,ol,os,lH,mn,pK,DW,av,ew,eJ,iV,K⟩,WC⟩
   replace f0:=(ag 0 rfl).trans f0;replace f1:=(ag 1 rfl).trans f1;replace f2:=(ag 2 rfl).trans f2;replace f13:=(ag 13 rfl).trans f13
   clear f7 f8 f14
   have f7:=ew
   have f8:=eJ
   have f14:=WC
   have K:=dq f0 f1 f2 f7 f8 f13 f14;clear f0 f1 f2 f7 f8 f13 f14
   refine bL [0,1,2,7,8,9,10,13,14,15,20] fun F k=>?_;clear K
   obtain⟨f0,f1,f2,f7,f8,f9,f10,f13,f14,f15,f20⟩:=k
   by_cases aT:i<n+1
   · have ae:=os.aB (off+i)
     have go:=j0 (show off+i<o'.length by omega)
     have sz:=kq (show 0<o'.length by omega)
     have dJ:=iV.cells
     have fC:=iV.bR
     have nZ:s.h.cells ry=some (a' (ad Yv)):=by rw[K.cells ry W.c6 bG];exact W.cells
     have pL:=kq (show 0<(ad Yv).length by omega)
     by_cases b9:i<n
     · have LU:=aO.aB i
       have n0:=j0 (show i<(ad Yv).length by omega)
       have k0:=ir Yv i
       generalize iP:aB o' (off+i)=x at*
       generalize aB (ad Yv) i=y at*
       obtain⟨p,aF⟩:∃p,p=g*y+c:=⟨_,rfl⟩
       have adQ:g*y<=4294967295*4294967295:=Nat.mul_le_mul (by omega) (by omega)
       have WD:g*y<18446744073709551616:=by omega
       have vC:p<18446744073709551616:=by omega
       have t:=CQ (x:=x) (y:=p%4294967296) (c:=b) ae (Nat.mod_lt _ (by decide)) pK
       have my:(4294967296+x - p%4294967296 - b)%4294967296+p%4294967296+b=x+4294967296*(if x<p%4294967296+b then 1 else 0):=by split<;>omega
       have rR:(if x<p%4294967296+b then 1 else 0)<=1:=by split<;>omega
       have sI:(4294967296+x - p%4294967296 - b)%4294967296<4294967296:=Nat.mod_lt _ (by decide)
       generalize (4294967296+x - p%4294967296 - b)%4294967296=out at*
       generalize (if x<p%4294967296+b then 1 else 0)=jS at*
       have st:=oJ o' (off+i) out
       have iu:=mI out (show off+i<o'.length by omega)
       rw[iP,iE] at iu
       have eP:=LN iu my (Nat.div_add_mod p 4294967296).symm aF av rfl
       rw[k0,<-lX] at eP
       have nz:=aF.symm
       clear aF my iu av k0
       generalize WE:g*y=adR at*
       have H:=vV aT b9 dJ fC nZ go n0 sz pL st t WE nz WD vC
       have K:=kl f0 f1 f2 f7 f8 f9 f10 f13 f14 f15 f20;clear f0 f1 f2 f7 f8 f9 f10 f13 f14 f15 f20
       refine cI [0,1,2,7,8,9,10,13,14,15,20] fun F k=>?_;clear K H
       obtain⟨f0,f1,f2,f7,f8,f9,f10,f13,f14,f15,f20⟩:=k
       refine⟨o'.set (off+i) out,p/4294967296,jS,by rw[List.length_set];exact ol,mJ os sI,fun j aA=>?_,by omega,rR,fun cw=>absurd cw (by omega),by rw[wO i];exact eP,f7,f8,iV.put _ _ _ (by omega),K.put _ _ (by omega)⟩
       rw[m9 _ _ (by omega),if_neg (by omega)]
       exact lH j aA
     · obtain rfl:i=n:=by omega
       generalize iP:aB o' (off+i)=x at*
       have t:=CQ (x:=x) (y:=c) (c:=b) ae mn pK
       have my:(4294967296+x - c - b)%4294967296+c+b=x+4294967296*(if x<c+b then 1 else 0):=by split<;>omega
       have rR:(if x<c+b then 1 else 0)<=1:=by split<;>omega
       have sI:(4294967296+x - c - b)%4294967296<4294967296:=Nat.mod_lt _ (by decide)
       generalize (4294967296+x - c - b)%4294967296=out at*
       generalize (if x<c+b then 1 else 0)=jS at*
       have st:=oJ o' (off+i) out
       have iu:=mI out (show off+i<o'.length by omega)
       rw[iP,iE] at iu
       have eP:=LN (p:=c) (pl:=c) (c':=0) (y:=0) (g:=g) iu my (by omega) (by omega) av rfl
       rw[Nat.mul_zero,Nat.add_zero,Nat.mod_eq_of_lt wN] at eP
       have WG:c<18446744073709551616:=by omega
       have WH:c/4294967296=0:=Nat.div_eq_of_lt mn
       clear my iu av
       have H:=jK aT dJ fC nZ go sz pL st t WG mn WH
       have K:=kl f0 f1 f2 f7 f8 f9 f10 f13 f14 f15 f20;clear f0 f1 f2 f7 f8 f9 f10 f13 f14 f15 f20
       refine cI [0,1,2,7,8,9,10,13,14,15,20] fun F k=>?_;clear K H
       obtain⟨f0,f1,f2,f7,f8,f9,f10,f13,f14,f15,f20⟩:=k
       refine⟨o'.set (off+i) out,0,jS,by rw[List.length_set];exact ol,mJ os sI,fun j aA=>?_,by decide,rR,fun _=>rfl,by rw[Nat.mod_eq_of_lt (Nat.lt_of_lt_of_le wN (lW (by omega))),wO];exact eP,f7,f8,iV.put _ _ _ (by omega),K.put _ _ (by omega)⟩
       rw[m9 _ _ (by omega),if_neg (by omega)]
       exact lH j aA
   · obtain rfl:i=n+1:=by omega
     have H:=trivial
     have K:=kl f0 f1 f2 f7 f8 f9 f10 f13 f14 f15 f20;clear f0 f1 f2 f7 f8 f9 f10 f13 f14 f15 f20
     refine cI [0,1,2,7,8,9,10,13,14,15,20] fun F k=>?_;clear K H
     obtain⟨f0,f1,f2,f7,f8,f9,f10,f13,f14,f15,f20⟩:=k
     exact ⟨o',c,b,ol,os,lH,mn,pK,DW,av,f7,f8,iV.bump _ _ (by omega),K.bump _ (by omega)⟩
 · rintro s ag ⟨o',c,b,ol,os,lH,mn,pK,DW,av,ew,eJ,iV,K⟩
   clear f7 f8 f14
   have f8:=eJ
   have jE:=DW (by omega)
   rw[jE,Nat.zero_add,Nat.mod_eq_of_lt (Nat.lt_of_lt_of_le wN (lW (by omega)))] at av
   have K:=f8;clear f8
   refine bL [6,8] fun F k=>?_;clear K
   obtain⟨f6,f8⟩:=k
   have H:=trivial
   have K:=bA f6 f8;clear f6 f8
   refine cI [6,8] fun F k=>?_;clear K H
   obtain⟨f6,f8⟩:=k
   try refine bU ?_
   exact ⟨trivial,F 6,rfl,o',b,f6,ol,os,lH,pK,av,iV.bump _ _ (by omega),K.bump _ (by omega)⟩
def LV (h:af) (id off n Yv:Nat) (o:List Nat) (i:Nat) (s:aI):Prop:=∃o' c,o'.length=o.length/\Small o'/\(∀j,j<off\/off+n<=j->aB o' j=aB o j)/\c<=1/\val o'+ah off*ah i*c=val o+ah off*(Yv%ah i)/\
 s.F 4=bh c/\fe s.h id o'/\lG id h s.h
theorem WI (Y:List cF) (h:af) {id ry off n cap Yv:Nat} {o:List Nat} (V:fe h id o) (W:fe h ry (ad Yv)) (bG:ry≠id) (aq:(ad Yv).length=n) (rG:0<n) (fq:Small o) (iF:off+n+1<=o.length) (aw:o.length<=1000000000):
 ∃v h',eX G (aE Tryz.prog) jw Y (.fn 263) [.ref id off (n+1) cap,.ref ry 0 n n] h=some (v,h')/\
  ∃o' d,v= .bo []/\o'.length=o.length/\Small o'/\(∀j,j<off\/off+n<j->aB o' j=aB o j)/\val o'+ah off*ah (n+1)*d=val o+ah off*Yv/\fe h' id o'/\lG id h h':=by
 refine j8 Jh ?_
 have aO:=dB Yv
 have wN:Yv<ah n:=ct.1 (by omega)
 have wO:∀i,ah off*ah (i+1)=ah off*ah i*4294967296:=fun i=>by rw[dR,Nat.mul_assoc]
 unfold i263
 refine aL [0,1,4,5,7,8,9] fun F K=>?_
 obtain⟨f0,f1,f4,f5,f7,f8,f9⟩:=K
 have H:=trivial
 have K:=dq f0 f1 f4 f5 f7 f8 f9;clear f0 f1 f4 f5 f7 f8 f9
 refine cI [0,1,4,5,7,8,9] fun F k=>?_;clear K H
 obtain⟨f0,f1,f4,f5,f7,f8,f9⟩:=k
 refine iz n (fun i s=>LV h id off n Yv o i s/\s.F 8=aR i) (LV h id off n Yv o n) (fun _=>False) ?_ ?_ ?_ (fun _ _ h=>h.elim)
 · exact ⟨⟨o,0,rfl,fq,fun _ _=>rfl,by decide,by simp[fp,Nat.mod_one],f4,V.bump _ _ (by omega),(lG.refl id h).bump _ (by omega)⟩,f8⟩
 · rintro i s ab ag ⟨⟨o',c,ol,os,lH,mn,av,jW,iV,K⟩,eJ⟩
   replace f0:=(ag 0 rfl).trans f0;replace f1:=(ag 1 rfl).trans f1;replace f7:=(ag 7 rfl).trans f7
   clear f4 f8
   have f4:=jW
   have f8:=eJ
   have WJ:=iV.c6
   have wP:=Nat.lt_of_lt_of_le W.c6 K.next
   have K:=bw f0 f1 f4 f7 f8;clear f0 f1 f4 f7 f8
   refine bL [0,1,4,5,7,8,9] fun F k=>?_;clear K
   obtain⟨f0,f1,f4,f5,f7,f8,f9⟩:=k
   by_cases aT:i<n
   · have ae:=os.aB (off+i)
     have go:=j0 (show off+i<o'.length by omega)
     have sz:=kq (show 0<o'.length by omega)
     have dJ:=iV.cells
     have fC:=iV.bR
     have nZ:s.h.cells ry=some (a' (ad Yv)):=by rw[K.cells ry W.c6 bG];exact W.cells
     have pL:=kq (show 0<(ad Yv).length by omega)
     have LU:=aO.aB i
     have n0:=j0 (show i<(ad Yv).length by omega)
     have k0:=ir Yv i
     generalize iP:aB o' (off+i)=x at*
     generalize aB (ad Yv) i=y at*
     have t:=J8 (x:=x) (y:=y) (c:=c) ae LU mn
     have my:x+y+c=4294967296*((x+y+c)/4294967296)+(x+y+c)%4294967296:=(Nat.div_add_mod _ _).symm
     have sI:(x+y+c)%4294967296<4294967296:=Nat.mod_lt _ (by decide)
     have B2:(x+y+c)/4294967296<=1:=by omega
     generalize (x+y+c)%4294967296=out at*
     generalize (x+y+c)/4294967296=c' at*
     have st:=oJ o' (off+i) out
     have iu:=mI out (show off+i<o'.length by omega)
     rw[iP,iE] at iu
     have eP:=LO iu my av rfl
     rw[k0,<-lX] at eP
     have WK:i<n+1:=by omega
     clear my iu av k0
     have H:=km aT WK dJ fC nZ go n0 sz pL st t WJ wP
     have K:=dq f0 f1 f4 f5 f7 f8 f9;clear f0 f1 f4 f5 f7 f8 f9
     refine cI [0,1,4,5,7,8,9] fun F k=>?_;clear K H
     obtain⟨f0,f1,f4,f5,f7,f8,f9⟩:=k
     refine⟨o'.set (off+i) out,c',by rw[List.length_set];exact ol,mJ os sI,fun j aA=>?_,B2,by rw[wO i];exact eP,f4,iV.put _ _ _ (by omega),K.put _ _ (by omega)⟩
     rw[m9 _ _ (by omega),if_neg (by omega)]
     exact lH j aA
   · obtain rfl:i=n:=by omega
     have H:=trivial
     have K:=dq f0 f1 f4 f5 f7 f8 f9;clear f0 f1 f4 f5 f7 f8 f9
     refine cI [0,1,4,5,7,8,9] fun F k=>?_;clear K H
     obtain⟨f0,f1,f4,f5,f7,f8,f9⟩:=k
     exact ⟨o',c,ol,os,lH,mn,av,f4,iV.bump _ _ (by omega),K.bump _ (by omega)⟩
 · rintro s ag ⟨o',c,ol,os,lH,mn,av,jW,iV,K⟩
   replace f0:=(ag 0 rfl).trans f0;replace f1:=(ag 1 rfl).trans f1
   clear f4 f8
   have f4:=jW
   have ae:=os.aB (off+n)
   have go:=j0 (show off+n<o'.length by omega)
   have sz:=kq (show 0<o'.length by omega)
   have dJ:=iV.cells
   have fC:=iV.bR
   generalize iP:aB o' (off+n)=x at*
   have my:x+0+c=4294967296*((x+c)/4294967296)+(x+c)%4294967296:=(Nat.div_add_mod _ _).symm
   have sI:(x+c)%4294967296<4294967296:=Nat.mod_lt _ (by decide)
   have st:=oJ o' (off+n) ((x+c)%4294967296)
   have iu:=mI ((x+c)%4294967296) (show off+n<o'.length by omega)
   rw[iP,iE] at iu
   have eP:=LO (y:=0) iu my av rfl
   rw[Nat.mul_zero,Nat.add_zero,Nat.mod_eq_of_lt wN,<-wO] at eP
   have WL:∀j,j<off\/off+n<j->aB (o'.set (off+n) ((x+c)%4294967296)) j=aB o j:=fun j aA=>by
    rw[m9 _ _ (by omega),if_neg (by omega)]
    exact lH j (by omega)
   have WM:=mJ (j:=off+n) os sI
   have WN:(o'.set (off+n) ((x+c)%4294967296)).length=o.length:=by rw[List.length_set];exact ol
   clear my iu av
   generalize (x+c)/4294967296=WO at*
   have K:=bt f0 f1 f4;clear f0 f1 f4
   refine bL [0,1,4] fun F k=>?_;clear K
   obtain⟨f0,f1,f4⟩:=k
   have H:=bw dJ fC go sz st
   have K:=bt f0 f1 f4;clear f0 f1 f4
   repeat' (first|refine dY ?_|refine dZ ?_|((first|refine Cm ?_|refine Cn ?_|refine Co ?_|exact d'|refine d_ ?_);try(refine eI [0,1,4] fun F k=>?_;replace K:=k;clear k))|(refine ea (fun J=>?_) (fun J=>?_)<;>first|(exfalso;simp(disch:=omega) [H] at J;done)|(exfalso;simp at J;omega)|simp at J)|exact r7|refine r6 ?_|exact r9|refine r8 ?_|exact trivial)
   all_goals obtain⟨f0,f1,f4⟩:=K
   try refine And.intro trivial ?_
   exact ⟨.bo [],rfl,rfl,_,WN,WM,WL,⟨WO,eP⟩,iV.put _ _ _ (by omega),K.put _ _ (by omega)⟩
end
end
section
open Go Go.Eng Go.RowKit
theorem WQ {P:Program} {G:Nat->Option I} {f:FuncId} {A:Type} {pre:A->Prop} {enc:A->List I} {out:A->I} (inj:∀a b,enc a=enc b->out a=out b) (q:A->Prop)
 (U:aP P G f (bl (fun a=>pre a/\q a) enc out)) (h2:aP P G f (bl (fun a=>pre a/\¬q a) enc out)):aP P G f (bl pre enc out):=by
 intro args v cR
 obtain⟨a,aK,aa,rfl⟩:=vR cR
 by_cases aG:q a
 · exact U args (out a) (bC inj a ⟨aK,aG⟩ aa.symm)
 · exact h2 args (out a) (bC inj a ⟨aK,aG⟩ aa.symm)
theorem WR {P n1 sJ W Y lw zr g:Nat} (mg:Y=n1*P+zr) (adS:zr<P) (ly:W=sJ*P+lw) (adT:lw<P) (sK:4294967296<=n1) (bq:W<4294967296*Y) (aW:g=min (sJ/n1) 4294967295):W/Y<=g/\g<=W/Y+1/\W/Y<=4294967295:=by
 have mT:0<P:=by omega
 have LW:0<Y:=by rw[mg];exact Nat.add_pos_left (Nat.mul_pos (by omega) mT) _
 have aG:=Nat.div_mul_le_self W Y
 have Kz:=Nat.lt_succ_of_le (Nat.le_refl (W/Y))
 have adU:W/Y<4294967296:=by rw[Nat.div_lt_iff_lt_mul LW];exact bq
 have adV:W<(W/Y+1)*Y:=by
  have:=Nat.div_add_mod W Y
  have:=Nat.mod_lt W LW
  rw[Nat.add_mul,Nat.mul_comm (W/Y)];omega
 generalize W/Y=Q at*
 have U:Q<=sJ/n1:=by
  rw[Nat.le_div_iff_mul_le (by omega)]
  have e:Q*n1*P<=Q*Y:=by rw[mg,Nat.mul_add,Nat.mul_assoc];omega
  have ao:Q*n1*P<(sJ+1)*P:=by rw[Nat.add_mul];omega
  have:=Nat.lt_of_mul_lt_mul_right ao
  omega
 have Bx:g*n1<=sJ:=by
  have:g<=sJ/n1:=by rw[aW];exact Nat.min_le_left _ _
  exact (Nat.le_div_iff_mul_le (by omega)).1 this
 have WS:g<=4294967295:=by rw[aW];exact Nat.min_le_right _ _
 refine⟨by rw[aW];omega,?_,by omega⟩
 have al:g*Y<W+Y:=by
  have ao:g*Y=g*n1*P+g*zr:=by rw[mg,Nat.mul_add,Nat.mul_assoc]
  have aV:g*n1*P<=sJ*P:=Nat.mul_le_mul_right P Bx
  have bJ:g*zr<=4294967295*P:=Nat.mul_le_mul WS (by omega)
  have eW:4294967296*P<=n1*P:=Nat.mul_le_mul_right P sK
  rw[ao]
  omega
 have ao:g*Y<(Q+2)*Y:=by
  have:(Q+2)*Y=(Q+1)*Y+Y:=by grind
  omega
 have:=Nat.lt_of_mul_lt_mul_right ao
 omega
theorem WT {sL:List Nat} (au:Small sL) {i n:Nat} (aq:2<=n) (oL:val sL<ah (i+n+1)):val sL/ah i/ah (n - 2)=two (two (aB sL (i+n)) (aB sL (i+n - 1))) (aB sL (i+n - 2)):=by
 rw[pw au,pw au,pw au]
 obtain⟨p,rfl⟩:∃p,n=p+2:=⟨n - 2,by omega⟩
 rw[show i+(p+2) - 1=(i+p)+1 by omega,show i+(p+2) - 2=i+p by omega,show i+(p+2)=(i+p)+1+1 by omega,show p+2 - 2=p by omega,Nat.div_div_eq_div_mul,<-iE,qF,qF]
 rw[show i+(p+2)+1=(i+p)+3 by omega,iE,show ah 3=4294967296*4294967296*4294967296 by simp only[dR,fp],Nat.mul_comm] at oL
 have:=(Nat.div_lt_iff_lt_mul (ju (i+p))).2 oL
 generalize val sL/ah (i+p)=u at*
 simp only[two]
 omega
theorem WU {Y n:Nat} (aq:2<=n) (mg:Y<ah n):Y/ah (n - 2)=two (aB (ad Y) (n - 1)) (aB (ad Y) (n - 2)):=by
 rw[ir,ir]
 obtain⟨p,rfl⟩:∃p,n=p+2:=⟨n - 2,by omega⟩
 rw[show p+2 - 1=p+1 by omega,show p+2 - 2=p by omega,qF]
 rw[iE,show ah 2=4294967296*4294967296 by simp only[dR,fp],Nat.mul_comm] at mg
 have:=(Nat.div_lt_iff_lt_mul (ju p)).2 mg
 generalize Y/ah p=u at*
 simp only[two]
 omega
theorem WV {X pa Y P pn g b Q:Nat} (mT:0<P) (mg:0<Y) (dp:Q=X/P/Y) (U:Q<=g) (h2:g<=Q+1) (av:pa+P*(g*Y)=X+P*pn*b) (aa:b<=1) (oL:pa<P*pn) (adW:X<P*pn):
 (b=0->g=Q/\pa+P*(Q*Y)=X)/\(b=1->g=Q+1/\∀zt d,zt+P*pn*d=pa+P*Y->zt<P*pn->zt+P*(Q*Y)=X)/\X<P*((Q+1)*Y)/\P*(Q*Y)<=X:=by
 have a_:=Nat.div_add_mod X P
 have hm:=Nat.mod_lt X mT
 have yI:=Nat.div_add_mod (X/P) Y
 have Lf:=Nat.mod_lt (X/P) mg
 rw[<-dp] at yI
 have bx:P*(Q*Y)<=X:=by
  have:P*(Q*Y)<=P*(X/P):=Nat.mul_le_mul_left P (by rw[Nat.mul_comm];omega)
  omega
 have bZ:X<P*((Q+1)*Y):=by
  have e:X/P+1<=(Q+1)*Y:=by rw[Nat.add_mul,Nat.mul_comm Q];omega
  have:=Nat.mul_le_mul_left P e
  rw[Nat.mul_add] at this
  omega
 refine⟨fun h=>?_,fun h=>?_,bZ,bx⟩
 · subst h
   rw[Nat.mul_zero,Nat.add_zero] at av
   have:g=Q:=by
    refine Nat.le_antisymm ?_ U
    refine Nat.le_of_not_lt fun bq=>?_
    have e:P*((Q+1)*Y)<=P*(g*Y):=Nat.mul_le_mul_left P (Nat.mul_le_mul_right Y bq)
    omega
   subst this
   exact ⟨rfl,av⟩
 · subst h
   rw[Nat.mul_one] at av
   have:g=Q+1:=by
    refine Nat.le_antisymm h2 ?_
    refine Nat.lt_of_le_of_ne U fun he=>?_
    subst he
    omega
   subst this
   refine⟨rfl,fun zt d az aT=>?_⟩
   have e:P*((Q+1)*Y)=P*(Q*Y)+P*Y:=by rw[Nat.add_mul,Nat.one_mul,Nat.mul_add]
   have WW:d=1:=by
    rcases Nat.lt_trichotomy d 1 with h|h|h
    · have:d=0:=by omega
      subst this
      omega
    · exact h
    · have:P*pn*2<=P*pn*d:=Nat.mul_le_mul_left _ h
      have aV:P*Y<=P*((Q+1)*Y):=by rw[e];omega
      omega
   subst WW
   omega
end
section
set_option maxHeartbeats 8000000
open Go Go.Eng Go.RowKit
attribute [local simp] aU.m aU.o aU.n aU.g eM dN cE ch cM evalOp.eq_1 evalOp.eq_2 evalOp.eq_3 evalOp.eq_4 evalOp.eq_5 evalOp.eq_6 evalOp.eq_7 evalOp.eq_8 evalOp.eq_9 evalOp.eq_10 evalOp.eq_11 evalOp.eq_12 evalOp.eq_13 evalOp.eq_14 evalOp.eq_15 evalOp.eq_16 evalOp.eq_17 evalOp.eq_18 evalOp.eq_19 evalOp.eq_20 evalOp.eq_21 evalOp.eq_22 evalOp.eq_23 evalOp.eq_24 evalOp.eq_25 evalOp.eq_27 evalOp.eq_28 evalOp.eq_29 hX aQ.ev cg an af.new ds I.cells I.bW I.dk I.dh fU fW fV fX fZ fY hh hi hj e7 e8 cut partOf bound elems hl hn ho hp hq hr hs ht hv hx hy hz fm hA hB hC hD hE hF hG hH hI hJ hK hL hM hN hO hP hQ hR hS hT hU hV hW dM dC dz eF f_ fz af.close af.set fB hY hZ h0 hk fA fy fa dP fj fL fk fl fM fN fO eC eD eE eB f' bD fJ ga fK gb gd eo gf ep gg gh gi e1 hg gj gk gl gm gn gp gq gr gu gv gw gx gy gz gA gB gC gD gE e_ gF gG gH gI gJ gK gL gM gN gO gP gQ gR gS gT
attribute [local simp high] hc hd hf gU gV gW gX gY gZ g0 g1 g2 g3 g4 g5 g6 g7 g8 g9 g_ g' ha hb
attribute [local simp] aD List.getElem?_cons_zero List.getElem?_cons_succ dc cf eY Nat.mod_eq_of_lt ig ih ij ik e2 il im iq
section
attribute [local irreducible] a7
attribute [local simp] c5 cZ ck
noncomputable def zu:FuncId->Option (List I->Option I):=cA [(171,m_),(259,ur),(170,kp)]
theorem WX:∀f T,zu f=some T->aP Tryz.prog G f T:=cH (by simp only[List.forall_mem_cons];exact ⟨wb,K6,pA,fun _ h=>absurd h (by simp)⟩)
theorem WY:zu 171=some m_:=rfl
theorem WZ:zu 259=some ur:=rfl
theorem W0:zu 170=some kp:=rfl
attribute [local simp] WY WZ W0
noncomputable def zv:List I->Option I:=bl (fun z:Nat × Nat=>(ad z.1).length<=10000000/\(ad z.2).length<=10000000) (fun z=>[ai z.1,ai z.2]) (fun z=>if z.2=0 then .bo [.sl [] false,.sl [] false,aR 3] else .bo [ai (z.1/z.2),ai (z.1%z.2),aR 0])
theorem W1 (z:Nat × Nat) (h:(ad z.1).length<=10000000/\(ad z.2).length<=10000000) {args:List I} (he:args.map I.loose= [ai z.1,ai z.2]):zv args=some (if z.2=0 then .bo [.sl [] false,.sl [] false,aR 3] else .bo [ai (z.1/z.2),ai (z.1%z.2),aR 0]):=bC (fun z w h=>by simp only[List.cons.injEq,I.int.injEq,I.bool.injEq,I.sl.injEq,cD,cB,cO,cP,cK,bO,b2,cJ,bD,true_and,and_true] at h;simp[h]) z h he
def wQ (z:Nat × Nat):Prop:=z.2=0\/z.1<z.2\/(ad z.2).length<=1
theorem W2:aP Tryz.prog G 205 (bl (fun z:Nat × Nat=>((ad z.1).length<=10000000/\(ad z.2).length<=10000000)/\wQ z) (fun z=>[ai z.1,ai z.2]) (fun z=>if z.2=0 then .bo [.sl [] false,.sl [] false,aR 3] else .bo [ai (z.1/z.2),ai (z.1%z.2),aR 0])):=by
 refine bB mixed WX Cr fun z ar=>?_
 obtain⟨a,b⟩:=z
 obtain⟨⟨bF,a'⟩,aG⟩:=ar
 simp only[wQ] at bF a' aG|-
 unfold i205
 have dS:=eS
 by_cases du:b=0
 · rw[if_pos du]
   subst du
   refine aL [0,1,4,5,6,7,8,10,11,12,13,14,15,16,17,21,27,61,76,119] fun F K=>?_
   obtain⟨f0,f1,f4,f5,f6,f7,f8,f10,f11,f12,f13,f14,f15,f16,f17,f21,f27,f61,f76,f119⟩:=K
   have H:=dS
   have K:=yg f0 f1 f4 f5 f6 f7 f8 f10 f11 f12 f13 f14 f15 f16 f17 f21 f27 f61 f76 f119;clear f0 f1 f4 f5 f6 f7 f8 f10 f11 f12 f13 f14 f15 f16 f17 f21 f27 f61 f76 f119
   exact a3 [0,1,4,5,6,7,8,10,11,12,13,14,15,16,17,21,27,61,76,119]
 rw[if_neg du]
 have kN:(ad b).length≠0:=by have:=lz.2 du;omega
 have pM:ad b≠ []:=fun h=>du (jN.1 h)
 have mj:=wa (a:=a) (b:=b) (e:=false) (e':=false) (by omega) (by omega)
 by_cases bq:a<b
 · have ml:dI a b= -1:=by simp[dI,bq]
   rw[ml] at mj
   rw[Nat.div_eq_of_lt bq,Nat.mod_eq_of_lt bq]
   have wR:((-1:Int)<Z 0)=True:=by simp[Z]
   refine aL [0,1,4,5,6,7,8,10,11,12,13,14,15,16,17,21,27,61,76,119] fun F K=>?_
   obtain⟨f0,f1,f4,f5,f6,f7,f8,f10,f11,f12,f13,f14,f15,f16,f17,f21,f27,f61,f76,f119⟩:=K
   have H:=bw mj kN pM wR dS
   have K:=yg f0 f1 f4 f5 f6 f7 f8 f10 f11 f12 f13 f14 f15 f16 f17 f21 f27 f61 f76 f119;clear f0 f1 f4 f5 f6 f7 f8 f10 f11 f12 f13 f14 f15 f16 f17 f21 f27 f61 f76 f119
   repeat' (first|refine dY ?_|refine dZ ?_|((first|refine er ?_|refine et ?_|refine eu ?_|exact d'|refine d_ ?_);try(refine eI [0,1,4,5,6,7,8,10,11,12,13,14,15,16,17,21,27,61,76,119] fun F k=>?_;replace K:=k;clear k))|(refine ea (fun J=>?_) (fun J=>?_)<;>first|(exfalso;simp(disch:=omega) [H] at J;done)|(exfalso;simp at J;omega)|simp at J)|((first|refine bU ?_|refine c9 ?_);simp(disch:=omega) [H,K,dS])|exact trivial)
   all_goals obtain⟨f0,f1,f4,f5,f6,f7,f8,f10,f11,f12,f13,f14,f15,f16,f17,f21,f27,f61,f76,f119⟩:=K
 · have ml:(dI a b<Z 0)=False:=by
    simp only[dI,if_neg bq,Z];split<;>simp
   generalize dI a b=yL at*
   have Hb:(ad b).length=1:=by omega
   have pK:b<4294967296:=by
    have:=ct.1 (show (ad b).length<=1 by omega)
    rwa [dR,fp,Nat.one_mul] at this
   have jZ:=(j_ (show 0<(ad b).length by omega)).symm
   rw[ir,fp,Nat.div_one,Nat.mod_eq_of_lt pK] at jZ
   have dV:=VD (a,b) ⟨show (ad a).length<=100000000 by omega,pK⟩ (args:=[ai a,bh b]) (by simp)
   simp only[if_neg du] at dV
   have W3:a%b<4294967296:=Nat.lt_trans (Nat.mod_lt _ (Nat.pos_of_ne_zero du)) pK
   have cT:=oE (l:=[a%b]) (e:=true) (lh.2 ⟨W3,Small.nil⟩) (by simp)
   rw[show val [a%b]=a%b by simp[val]] at cT
   simp only[List.map_cons,List.map_nil] at cT
   generalize a/b=q at*
   generalize a%b=r at*
   refine aL [0,1,4,5,6,7,8,10,11,12,13,14,15,16,17,21,27,61,76,119] fun F K=>?_
   obtain⟨f0,f1,f4,f5,f6,f7,f8,f10,f11,f12,f13,f14,f15,f16,f17,f21,f27,f61,f76,f119⟩:=K
   have H:=e3 mj kN pM ml Hb jZ dV cT
   have K:=yg f0 f1 f4 f5 f6 f7 f8 f10 f11 f12 f13 f14 f15 f16 f17 f21 f27 f61 f76 f119;clear f0 f1 f4 f5 f6 f7 f8 f10 f11 f12 f13 f14 f15 f16 f17 f21 f27 f61 f76 f119
   exact a3 [0,1,4,5,6,7,8,10,11,12,13,14,15,16,17,21,27,61,76,119]
end
end
section
set_option maxHeartbeats 8000000
open Go Go.Eng Go.RowKit
theorem W4 {b n t:Nat} (aq:0<n) (aa:(ad b).length=n) (aJ:t=b/ah (n - 1)):
 t<4294967296/\32 - dx t<=31/\b*2^(32 - dx t)<ah n/\ah n<=2*(b*2^(32 - dx t))/\(ad (b*2^(32 - dx t))).length=n:=by
 obtain⟨p,rfl⟩:∃p,n=p+1:=⟨n - 1,by omega⟩
 rw[Nat.add_sub_cancel] at aJ
 have U:b<ah (p+1):=ct.1 (by omega)
 have h2:ah p<=b:=Nat.le_of_not_lt fun h=>by have:=ct.2 h;omega
 have mT:=ju p
 have t0:t≠0:=by
  have:0<t:=by rw[aJ];exact Nat.div_pos h2 mT
  omega
 have t9:t<4294967296:=by rw[aJ,Nat.div_lt_iff_lt_mul mT,Nat.mul_comm,<-dR];exact U
 have cc:dx t<=32:=oD.2 t9
 have ed:dx t≠0:=fun h=>t0 (SL.1 h)
 have la:t<2^dx t:=oD.1 (Nat.le_refl _)
 have nV:2^(dx t - 1)<=t:=JD.1 (by omega)
 obtain⟨k,ag⟩:∃k,dx t=k+1:=⟨dx t - 1,by omega⟩
 rw[ag] at cc la nV|-
 rw[show k+1 - 1=k by omega] at nV
 have a_:=Nat.div_add_mod b (ah p)
 have hm:=Nat.mod_lt b mT
 rw[<-aJ] at a_
 generalize b%ah p=u at*
 have ll:b*2^(32 -(k+1))<ah (p+1):=by
  have e:b<ah p*2^(k+1):=by
   have:=Nat.mul_le_mul_left (ah p) (show t+1<=2^(k+1) from la)
   rw[Nat.mul_add] at this
   omega
  have:=Nat.mul_lt_mul_of_pos_right e (Nat.pow_pos (n:=32 -(k+1)) (show 0<2 by decide))
  rw[Nat.mul_assoc,<-Nat.pow_add,show k+1+(32 -(k+1))=32 by omega] at this
  rw[dR]
  exact this
 have kY:ah (p+1)<=2*(b*2^(32 -(k+1))):=by
  have e:ah p*2^k<=b:=by
   have:=Nat.mul_le_mul_left (ah p) nV
   omega
  have:=Nat.mul_le_mul_right (2*2^(32 -(k+1))) e
  rw[Nat.mul_assoc,Nat.mul_left_comm (2^k),<-Nat.pow_add,show k+(32 -(k+1))=31 by omega] at this
  rw[dR]
  have ao:ah p*(2*2^31)=ah p*4294967296:=by simp
  rw[ao,Nat.mul_left_comm] at this
  exact this
 refine⟨t9,by omega,ll,kY,?_⟩
 have v1:=ct.2 ll
 have v2:¬(ad (b*2^(32 -(k+1)))).length<=p:=fun h=>by
  have:=ct.1 h
  rw[dR] at kY
  omega
 omega
theorem W5 {a A s e6:Nat} (a4:(ad a).length=A) (au:s<=31) (lQ:a*2^s=e6) (ef:a≠0):A<=(ad e6).length/\(ad e6).length<=A+1/\e6<ah A*2147483648:=by
 have U:a<ah A:=ct.1 (by omega)
 have h2:2^s<=2147483648:=Nat.pow_le_pow_right (n:=2) (by decide) au
 have az:0<2^s:=Nat.pow_pos (by decide)
 have aT:e6<ah A*2147483648:=by
  rw[<-lQ]
  exact Nat.lt_of_lt_of_le (Nat.mul_lt_mul_of_pos_right U az) (Nat.mul_le_mul_left _ h2)
 have b9:a<=e6:=by rw[<-lQ];exact Nat.le_mul_of_pos_right a az
 refine⟨?_,ct.2 (by rw[dR];exact Nat.lt_of_lt_of_le aT (Nat.mul_le_mul_left _ (by decide))),aT⟩
 refine Nat.le_of_not_lt fun h=>?_
 have ei:=ct.1 (Nat.le_refl (ad e6).length)
 have rK:(ad a).length<=(ad e6).length:=ct.2 (by omega)
 omega
theorem W6 {r:Nat} {h:af} {q n v:Nat} {e:Bool} {o:List Nat} (bV:h.shut q=false) (J:h.cells q=some (a' o)) (aq:o.length=n) (aD:0<n) (aw:n<=1000000000):
 jt r 1 4 h (.ref q 0 n n) (.sl [.int .u32 (Z v)] e)=some (.ref r 0 (n+1) (n+1),⟨an (an h.cells q none) r (some (a' (o++ [v]))),h.shut,h.next,h.aS⟩,.wr):=by
 have al:elems h (.sl [.int .u32 (Z v)] e)=some [.int .u32 (Z v)]:=rfl
 have ao:a' (o++ [v])=List.take n (a' o)++ [.int .u32 (Z v)]:=by rw[y4 (by omega)];simp[a']
 unfold jt
 rw[al,ao]
 simp only[Option.bind_some]
 rw[if_pos ⟨by decide,by decide,rfl⟩]
 simp only[List.length_cons,List.length_nil,Nat.zero_add,Nat.reduceAdd,bV,J,Option.bind_some,Bool.false_eq_true,if_false]
 rw[if_neg (by decide),if_pos ⟨by rw[pE];omega,by omega,by decide,VO o⟩,if_neg (by omega),if_pos ⟨by first|rfl|trivial,aD⟩]
theorem zw:∀ {o:List Nat},Small o->∀ {k},(∀j,k<=j->aB o j=0)->val o<ah k
 | [],_,k,_=>by simp only[val];exact ju k
 | x::l,au,0,h=>by
   have aD:x=0:=by simpa[aB] using h 0 (Nat.le_refl _)
   have U:=zw (lh.1 au).2 (k:=0) (fun j _=>by simpa[aB] using h (j+1) (Nat.zero_le _))
   rw[fp] at*
   simp only[val];omega
 | x::l,au,k+1,h=>by
   have aD:=(lh.1 au).1
   have U:=zw (lh.1 au).2 (k:=k) (fun j aA=>by simpa[aB] using h (j+1) (by omega))
   rw[dR]
   simp only[val];omega
theorem LX {o:List Nat} (au:Small o) {k j:Nat} (h:val o<ah k) (aA:k<=j):aB o j=0:=by
 rw[pw au,Nat.div_eq_of_lt (Nat.lt_of_lt_of_le h (lW aA))]
def LY (m n e6 Y bu r q k:Nat) (s:aI):Prop:=(∀j,s.h.shut j=false)/\fe s.h bu (ad Y)/\∃b6 fD,b6.length=m+n/\fD.length=m/\Small b6/\Small fD/\fe s.h r b6/\fe s.h q fD/\(∀j,j<k->aB fD j=0)/\val fD*Y+val b6=e6/\val b6<ah k*Y
theorem W7 {b6:List Nat} {i n Y:Nat} (xs:Small b6) (aq:2<=n) (uC:Y<ah n) (sK:ah n<=2*Y) (av:val b6<ah (i+1)*Y):
 val b6<ah (i+n+1)/\aB b6 (i+n)<=aB (ad Y) (n - 1)/\aB (ad Y) (n - 1)≠0/\
 (val b6/ah i/Y<=lF (aB b6 (i+n)) (aB b6 (i+n - 1)) (aB b6 (i+n - 2)) (aB (ad Y) (n - 1)) (aB (ad Y) (n - 2))/\
   lF (aB b6 (i+n)) (aB b6 (i+n - 1)) (aB b6 (i+n - 2)) (aB (ad Y) (n - 1)) (aB (ad Y) (n - 2))<=val b6/ah i/Y+1/\val b6/ah i/Y<=4294967295):=by
 have aF:=ju i
 have oL:val b6<ah (i+n+1):=by
  rw[show i+n+1=(i+1)+n by omega,iE]
  exact Nat.lt_of_lt_of_le av (Nat.mul_le_mul_left _ (Nat.le_of_lt uC))
 have ly:val b6/ah i<4294967296*Y:=by
  rw[Nat.div_lt_iff_lt_mul aF,Nat.mul_comm,<-Nat.mul_assoc,<-dR];exact av
 have mT:=ju (n - 2)
 have cX:=WT xs aq oL
 have bZ:=WU aq uC
 have adX:aB (ad Y) (n - 1)<4294967296:=(dB Y).aB _
 have jC:aB (ad Y) (n - 2)<4294967296:=(dB Y).aB _
 have Vj:aB b6 (i+n - 1)<4294967296:=xs.aB _
 have iP:aB b6 (i+n - 2)<4294967296:=xs.aB _
 have qZ:4294967296<=Y/ah (n - 2):=by
  rw[Nat.le_div_iff_mul_le mT,Nat.mul_comm,<-dR,show n - 2+1=n - 1 by omega]
  have:ah n=ah (n - 1)*4294967296:=by rw[<-dR,show n - 1+1=n by omega]
  omega
 have LZ:val b6/ah i/ah (n - 2)<4294967296*(Y/ah (n - 2)+1):=by
  rw[Nat.div_lt_iff_lt_mul mT]
  have U:=Nat.div_add_mod Y (ah (n - 2))
  have h2:=Nat.mod_lt Y mT
  have az:Y<(Y/ah (n - 2)+1)*ah (n - 2):=by rw[Nat.add_mul,Nat.mul_comm (Y/ah (n - 2))];omega
  rw[Nat.mul_assoc]
  exact Nat.lt_of_lt_of_le ly (Nat.mul_le_mul_left _ (Nat.le_of_lt az))
 have L0:=WR (P:=ah (n - 2)) (Nat.div_add_mod' Y (ah (n - 2))).symm (Nat.mod_lt _ mT) (Nat.div_add_mod' (val b6/ah i) (ah (n - 2))).symm (Nat.mod_lt _ mT) qZ ly rfl
 rw[cX,bZ] at L0
 rw[cX,bZ] at LZ
 rw[bZ] at qZ
 refine⟨oL,?_,?_,L0⟩
 · generalize aB b6 (i+n)=x2 at*
   generalize aB (ad Y) (n - 1)=y1 at*
   simp only[two] at LZ
   omega
 · intro h
   rw[h] at qZ
   simp only[two] at qZ
   omega
def L1 (L e6 Y bu:Nat) (s:aI):Prop:=(∀j,s.h.shut j=false)/\fe s.h bu (ad Y)/\∃r b6,s.F 12= .ref r 0 L L/\b6.length=L/\val b6=e6/\Small b6/\r≠bu/\fe s.h r b6
theorem fe.off {h:af} {p q:Nat} {o:List Nat} (R:fe h p o) (bG:p≠q) (v:Option (List I)) (m:Nat) (j5:Nat->Option ff) (hm:h.next<=m):fe ⟨an h.cells q v,h.shut,m,j5⟩ p o:=
 ⟨by show an h.cells q v p=_;simp only[an,if_neg bG];exact R.cells,R.bR,Nat.lt_of_lt_of_le R.c6 hm⟩
theorem lG.vec {id:Nat} {h h':af} (K:lG id h h') {q:Nat} {o:List Nat} (V:fe h q o) (bG:q≠id):fe h' q o:=
 ⟨by rw[K.cells q V.c6 bG];exact V.cells,by rw[K.shut];exact V.bR,Nat.lt_of_lt_of_le V.c6 K.next⟩
theorem L2 {zx L3 lx DX P Q Y e6:Nat} (aG:L3=zx+P*Q) (av:zx*Y+lx=e6) (ae:DX+P*(Q*Y)=lx) (bq:lx<P*((Q+1)*Y)):L3*Y+DX=e6/\DX<P*Y:=by
 subst aG
 refine⟨by rw[<-av,<-ae];grind,?_⟩
 have e:P*((Q+1)*Y)=P*(Q*Y)+P*Y:=by grind
 omega
end
section
set_option maxHeartbeats 8000000
open Go Go.Eng Go.RowKit
attribute [local simp] aU.m aU.o aU.n aU.g eM dN cE ch cM evalOp.eq_1 evalOp.eq_2 evalOp.eq_3 evalOp.eq_4 evalOp.eq_5 evalOp.eq_6 evalOp.eq_7 evalOp.eq_8 evalOp.eq_9 evalOp.eq_10 evalOp.eq_11 evalOp.eq_12 evalOp.eq_13 evalOp.eq_14 evalOp.eq_15 evalOp.eq_16 evalOp.eq_17 evalOp.eq_18 evalOp.eq_19 evalOp.eq_20 evalOp.eq_21 evalOp.eq_22 evalOp.eq_23 evalOp.eq_24 evalOp.eq_25 evalOp.eq_27 evalOp.eq_28 evalOp.eq_29 hX aQ.ev cg an af.new ds I.cells I.bW I.dk I.dh fU fW fV fX fZ fY hh hi hj e7 e8 cut partOf bound elems hl hn ho hp hq hr hs ht hv hx hy hz fm hA hB hC hD hE hF hG hH hI hJ hK hL hM hN hO hP hQ hR hS hT hU hV hW dM dC dz eF f_ fz af.close af.set fB hY hZ h0 hk fA fy fa dP fj fL fk fl fM fN fO eC eD eE eB f' bD fJ ga fK gb gd eo gf ep gg gh gi e1 hg gj gk gl gm gn gp gq gr gu gv gw gx gy gz gA gB gC gD gE e_ gF gG gH gI gJ gK gL gM gN gO gP gQ gR gS gT
attribute [local simp high] hc hd hf gU gV gW gX gY gZ g0 g1 g2 g3 g4 g5 g6 g7 g8 g9 g_ g' ha hb
attribute [local simp] aD List.getElem?_cons_zero List.getElem?_cons_succ dc cf eY Nat.mod_eq_of_lt ig ih ij ik e2 il im iq
section
attribute [local irreducible] a7
attribute [local simp] c5 cZ ck y' za zb zc zd ze wB wC
theorem W8 {m n Y bu r q i ss g:Nat} {s:aI} {b6 fD:List Nat} {az:af} (lD:2<=n) (k8:m+n<=10000001) (pF:i<m) (pN:(ad Y).length=n) (mq:b6.length=m+n) (fs:fD.length=m)
 (f10:s.F 10=aR ss) (f11:s.F 11= .ref bu 0 n n) (f12:s.F 12= .ref r 0 (m+n) (m+n)) (f13:s.F 13=aR n) (f14:s.F 14= .ref q 0 m m) (f15:s.F 15=aR i)
 (kh:s.h.cells r=some (a' b6)) (nZ:s.h.cells bu=some (a' (ad Y))) (oM:s.h.shut r=false) (pO:r<s.h.next) (zy:bu<s.h.next)
 (oN:uq [bh (aB b6 (i+n)),bh (aB b6 (i+n - 1)),bh (aB b6 (i+n - 2)),bh (aB (ad Y) (n - 1)),bh (aB (ad Y) (n - 2))]=some (fb g)) (aW:g<4294967296)
 (aV:eX G (aE Tryz.prog) jw [] (.fn 262) [.ref r i (n+1) (m+n - i),.ref bu 0 n n,fb g] ⟨s.h.cells,s.h.shut,s.h.next+2+32+10,s.h.aS⟩=some (.bool false,az))
 (zz:az.cells q=some (a' fD)) (DY:az.shut q=false):
 a7 G (aE Tryz.prog) jw [] zq s (fun ex aj=>ex= .normal/\aj.F 15= .int .i64 (eT i)/\∃ey,az.next<=ey/\aj.h=⟨an az.cells q (some (a' (fD.set i g))),az.shut,ey,az.aS⟩):=by
 have bP:IntKind.i64.wrap (Z i+Z n)=Z (i+n):=dc (by omega)
 have cy:IntKind.i64.wrap (Z (i+n) - Z 1)=Z (i+n - 1):=cf (by omega) (by omega)
 have e9:IntKind.i64.wrap (Z (i+n) - Z 2)=Z (i+n - 2):=cf (by omega) (by omega)
 have q0:IntKind.i64.wrap (Z n - Z 1)=Z (n - 1):=cf (by omega) (by omega)
 have sM:IntKind.i64.wrap (Z n - Z 2)=Z (n - 2):=cf (by omega) (by omega)
 have mU:IntKind.i64.wrap (Z (i+n)+Z 1)=Z (i+n+1):=dc (by omega)
 have nc:IntKind.i64.wrap (Z i - Z 1)=eT i:=ko (by omega)
 have DZ:=j0 (show i+n<b6.length by omega)
 have D0:=j0 (show i+n - 1<b6.length by omega)
 have D1:=j0 (show i+n - 2<b6.length by omega)
 have D2:=j0 (show n - 1<(ad Y).length by omega)
 have D3:=j0 (show n - 2<(ad Y).length by omega)
 have D4:=j0 (show i<fD.length by omega)
 have D5:=kq (show 0<b6.length by omega)
 have pL:=kq (show 0<(ad Y).length by omega)
 have zA:=kq (show 0<fD.length by omega)
 have wP:r<s.h.next+2:=by omega
 have D6:bu<s.h.next+2:=by omega
 have a_:i+n+1 - i=n+1:=by omega
 have k7:i<=i+n+1:=by omega
 have D7:i+n+1<=m+n:=by omega
 generalize aB b6 (i+n)=x2 at*
 generalize aB b6 (i+n - 1)=x1 at*
 generalize aB b6 (i+n - 2)=x0 at*
 generalize aB (ad Y) (n - 1)=y1 at*
 generalize aB (ad Y) (n - 2)=y0 at*
 have st:=oJ fD i g
 have D8:g%4294967296=g:=Nat.mod_eq_of_lt (by omega)
 unfold zq
 simp only[pJ,i205]
 have K:=dW f10 f11 f12 f13 f14 f15;clear f10 f11 f12 f13 f14 f15
 refine bL [10,11,12,13,14,15,16,76,119] fun F k=>?_;clear K
 obtain⟨f10,f11,f12,f13,f14,f15,f16,f76,f119⟩:=k
 have H:=yi bP cy e9 q0 sM mU nc DZ D0 D1 D2 D3 oN kh nZ D5 pL oM wP D6 a_ k7 D7 aV zz zA DY D4 st pF D8 fs
 have K:=h7 f10 f11 f12 f13 f14 f15 f16 f76 f119;clear f10 f11 f12 f13 f14 f15 f16 f76 f119
 exact kT [10,11,12,13,14,15,16,76,119]
end
section
attribute [local irreducible] a7
attribute [local simp] c5 cZ ck y' za zb zc zd ze wB wC
theorem W9 {m n Y bu r q i ss g:Nat} {s:aI} {b6 fD:List Nat} {az aT:af} (lD:2<=n) (k8:m+n<=10000001) (pF:i<m) (pN:(ad Y).length=n) (mq:b6.length=m+n) (fs:fD.length=m)
 (f10:s.F 10=aR ss) (f11:s.F 11= .ref bu 0 n n) (f12:s.F 12= .ref r 0 (m+n) (m+n)) (f13:s.F 13=aR n) (f14:s.F 14= .ref q 0 m m) (f15:s.F 15=aR i)
 (kh:s.h.cells r=some (a' b6)) (nZ:s.h.cells bu=some (a' (ad Y))) (oM:s.h.shut r=false) (pO:r<s.h.next) (zy:bu<s.h.next)
 (oN:uq [bh (aB b6 (i+n)),bh (aB b6 (i+n - 1)),bh (aB b6 (i+n - 2)),bh (aB (ad Y) (n - 1)),bh (aB (ad Y) (n - 2))]=some (fb (g+1))) (aW:g+1<4294967296)
 (aV:eX G (aE Tryz.prog) jw [] (.fn 262) [.ref r i (n+1) (m+n - i),.ref bu 0 n n,fb (g+1)] ⟨s.h.cells,s.h.shut,s.h.next+2+32+10,s.h.aS⟩=some (.bool true,az))
 (L4:r<az.next) (adY:bu<az.next) {ns:List Nat} (W_:ns.length=m+n) (W':az.cells r=some (a' ns)) (Xa:az.shut r=false)
 (bJ:eX G (aE Tryz.prog) jw [] (.fn 263) [.ref r i (n+1) (m+n - i),.ref bu 0 n n] ⟨az.cells,az.shut,az.next+3+9,az.aS⟩=some (.bo [],aT))
 (D9:aT.cells q=some (a' fD)) (D_:aT.shut q=false):
 a7 G (aE Tryz.prog) jw [] zq s (fun ex aj=>ex= .normal/\aj.F 15= .int .i64 (eT i)/\∃ey,aT.next<=ey/\aj.h=⟨an aT.cells q (some (a' (fD.set i g))),aT.shut,ey,aT.aS⟩):=by
 have bP:IntKind.i64.wrap (Z i+Z n)=Z (i+n):=dc (by omega)
 have cy:IntKind.i64.wrap (Z (i+n) - Z 1)=Z (i+n - 1):=cf (by omega) (by omega)
 have e9:IntKind.i64.wrap (Z (i+n) - Z 2)=Z (i+n - 2):=cf (by omega) (by omega)
 have q0:IntKind.i64.wrap (Z n - Z 1)=Z (n - 1):=cf (by omega) (by omega)
 have sM:IntKind.i64.wrap (Z n - Z 2)=Z (n - 2):=cf (by omega) (by omega)
 have mU:IntKind.i64.wrap (Z (i+n)+Z 1)=Z (i+n+1):=dc (by omega)
 have nc:IntKind.i64.wrap (Z i - Z 1)=eT i:=ko (by omega)
 have DZ:=j0 (show i+n<b6.length by omega)
 have D0:=j0 (show i+n - 1<b6.length by omega)
 have D1:=j0 (show i+n - 2<b6.length by omega)
 have D2:=j0 (show n - 1<(ad Y).length by omega)
 have D3:=j0 (show n - 2<(ad Y).length by omega)
 have D4:=j0 (show i<fD.length by omega)
 have D5:=kq (show 0<b6.length by omega)
 have pL:=kq (show 0<(ad Y).length by omega)
 have zA:=kq (show 0<fD.length by omega)
 have wP:r<s.h.next+2:=by omega
 have D6:bu<s.h.next+2:=by omega
 have a_:i+n+1 - i=n+1:=by omega
 have k7:i<=i+n+1:=by omega
 have D7:i+n+1<=m+n:=by omega
 generalize aB b6 (i+n)=x2 at*
 generalize aB b6 (i+n - 1)=x1 at*
 generalize aB b6 (i+n - 2)=x0 at*
 generalize aB (ad Y) (n - 1)=y1 at*
 generalize aB (ad Y) (n - 2)=y0 at*
 have st:=oJ fD i g
 have D8:g%4294967296=g:=Nat.mod_eq_of_lt (by omega)
 unfold zq
 simp only[pJ,i205]
 have Xb:r<az.next+3:=by omega
 have Xc:bu<az.next+3:=by omega
 have Xd:=kq (show 0<ns.length by omega)
 have Xe:(g+1+18446744073709551615)%18446744073709551616=g:=by omega
 have K:=dW f10 f11 f12 f13 f14 f15;clear f10 f11 f12 f13 f14 f15
 refine bL [10,11,12,13,14,15,16,76,119] fun F k=>?_;clear K
 obtain⟨f10,f11,f12,f13,f14,f15,f16,f76,f119⟩:=k
 have H:=Ru bP cy e9 q0 sM mU nc DZ D0 D1 D2 D3 oN kh nZ D5 pL oM wP D6 a_ k7 D7 aV bJ W' Xd Xa Xb Xc D9 zA D_ D4 st pF D8 fs Xe
 have K:=h7 f10 f11 f12 f13 f14 f15 f16 f76 f119;clear f10 f11 f12 f13 f14 f15 f16 f76 f119
 exact kT [10,11,12,13,14,15,16,76,119]
end
section
attribute [local irreducible] a7
attribute [local simp] c5 cZ ck y' za zb zc zd ze wB wC
theorem Xf:aP Tryz.prog G 205 (bl (fun z:Nat × Nat=>((ad z.1).length<=10000000/\(ad z.2).length<=10000000)/\¬wQ z) (fun z=>[ai z.1,ai z.2]) (fun z=>if z.2=0 then .bo [.sl [] false,.sl [] false,aR 3] else .bo [ai (z.1/z.2),ai (z.1%z.2),aR 0])):=by
 refine bB mixed VI Cr fun z ar=>?_
 obtain⟨a,b⟩:=z
 obtain⟨⟨bF,L5⟩,aG⟩:=ar
 simp only[wQ,not_or,Nat.not_lt,Nat.not_le] at bF L5 aG|-
 obtain⟨du,L6,kN⟩:=aG
 rw[if_neg du]
 unfold i205
 obtain⟨n,aq⟩:∃n,(ad b).length=n:=⟨_,rfl⟩
 obtain⟨A,a4⟩:∃A,(ad a).length=A:=⟨_,rfl⟩
 rw[aq] at kN L5
 rw[a4] at bF
 obtain⟨t,aJ⟩:∃t,t=b/ah (n - 1):=⟨_,rfl⟩
 obtain⟨t9,L7,uC,sK,pN⟩:=W4 (by omega) aq aJ
 have L8:=Vo t t9 (args:=[bh t]) (by simp)
 obtain⟨ss,au⟩:∃ss,32 - dx t=ss:=⟨_,rfl⟩
 rw[au] at L7 uC sK pN L8
 have jZ:=(j_ (show n - 1<(ad b).length by omega)).symm
 rw[ir,<-aJ,Nat.mod_eq_of_lt t9] at jZ
 have ef:a≠0:=by omega
 have mj:=wa (a:=a) (b:=b) (e:=false) (e':=false) (by omega) (by omega)
 have ml:(dI a b<Z 0)=False:=by
  simp only[dI,if_neg (Nat.not_lt.2 L6),Z];split<;>simp
 generalize dI a b=yL at*
 have pM:ad b≠ []:=fun h=>du (jN.1 h)
 have rG:n≠0:=by omega
 have wR:n≠1:=by omega
 obtain⟨v1,U,al,D'⟩:=La [] {cells:=fun _=>none,shut:=fun _=>false,next:=28} (fun _=>rfl) (a:=b) (n:=ss) (e:=false) du (by omega) (by omega)
 obtain⟨bu,rfl,yD,Ea⟩:=D'.val.resolve_left fun h=>by have:=congrArg List.length h.1;simp only[List.length_nil] at this;omega
 rw[pN] at al
 obtain⟨v2,h2,ao,oO⟩:=La [] {cells:=U.cells,shut:=U.shut,next:=U.next+4,aS:=U.aS} (fun j=>by show U.shut j=false;rw[D'.kept.shut]) (a:=a) (n:=ss) (e:=false) ef (by omega) (by omega)
 obtain⟨e6,lQ⟩:∃e6,a*2^ss=e6:=⟨_,rfl⟩
 obtain⟨Y,mg⟩:∃Y,b*2^ss=Y:=⟨_,rfl⟩
 obtain⟨d1,d2,d3⟩:=W5 a4 L7 lQ ef
 have adZ:=lz.2 ef
 rw[lQ] at oO
 rw[mg] at Ea uC sK pN
 obtain⟨c2,rfl,mH,oP⟩:=oO.val.resolve_left fun h=>by have:=congrArg List.length h.1;simp only[List.length_nil] at this;omega
 obtain⟨wS,Xg⟩:∃wS,(ad e6).length=wS:=⟨_,rfl⟩
 rw[Xg] at ao d1 d2
 have Xh:fe h2 bu (ad Y):=(Ea.bump (U.next+4) U.aS (by omega)).kept oO.kept
 have bG:c2≠bu:=by have:=Ea.c6;simp only at mH;omega
 refine aL [0,1,4,5,6,7,8,10,11,12,13,14,15,16,17,21,27,61,76,119] fun F K=>?_
 obtain⟨f0,f1,f4,f5,f6,f7,f8,f10,f11,f12,f13,f14,f15,f16,f17,f21,f27,f61,f76,f119⟩:=K
 have H:=kl al ao mj ml pM aq a4 rG wR jZ L8
 have K:=yg f0 f1 f4 f5 f6 f7 f8 f10 f11 f12 f13 f14 f15 f16 f17 f21 f27 f61 f76 f119;clear f0 f1 f4 f5 f6 f7 f8 f10 f11 f12 f13 f14 f15 f16 f17 f21 f27 f61 f76 f119
 refine cI [0,1,4,5,6,7,8,10,11,12,13,14,15,16,17,21,27,61,76,119] fun F k=>?_;clear K H
 obtain⟨f0,f1,f4,f5,f6,f7,f8,f10,f11,f12,f13,f14,f15,f16,f17,f21,f27,f61,f76,f119⟩:=k
 refine mF (fun k s=>k<=1/\L1 (A+1 - k) e6 Y bu s) (L1 (A+1) e6 Y bu) (fun _=>False) (A+1 - wS) ?_ ?_ ?_ (fun _ _ h=>h.elim)
 · refine⟨by omega,fun j=>?_,Xh.bump _ _ (by omega),c2,ad e6,?_,by omega,ck e6,dB e6,bG,oP.bump _ _ (by omega)⟩
   · show h2.shut j=false;rw[oO.kept.shut];show U.shut j=false;rw[D'.kept.shut]
   · rw[show A+1 -(A+1 - wS)=wS by omega];exact f12
 · rintro k s ag ⟨vi,bV,W,r,b6,nb,mq,wT,xs,bG,V⟩
   replace f0:=(ag 0 rfl).trans f0;replace f1:=(ag 1 rfl).trans f1;replace f11:=(ag 11 rfl).trans f11
   clear f12
   have kh:=V.cells
   have oM:=bV r
   cases k with
   | zero=>
     have f12:=nb
     have K:=b4 f0 f1 f11 f12;clear f0 f1 f11 f12
     refine bL [0,1,11,12,61] fun F k=>?_;clear K
     obtain⟨f0,f1,f11,f12,f61⟩:=k
     have H:=a4
     have K:=bw f0 f1 f11 f12 f61;clear f0 f1 f11 f12 f61
     refine cI [0,1,11,12,61] fun F k=>?_;clear K H
     obtain⟨f0,f1,f11,f12,f61⟩:=k
     exact ⟨bV,W.bump _ _ (by omega),r,b6,f12,mq,wT,xs,bG,V.bump _ _ (by omega)⟩
   | succ k=>
     obtain rfl:k=0:=by omega
     rw[show A+1 -(0+1)=A by omega] at nb mq
     have f12:=nb
     have ap:=fun q m p=>W6 (r:=q) (h:=⟨s.h.cells,s.h.shut,m,p⟩) (v:=0) (e:=true) oM kh mq (by omega) (by omega)
     have K:=b4 f0 f1 f11 f12;clear f0 f1 f11 f12
     refine bL [0,1,11,12,61] fun F k=>?_;clear K
     obtain⟨f0,f1,f11,f12,f61⟩:=k
     have H:=bA a4 ap
     have K:=bw f0 f1 f11 f12 f61;clear f0 f1 f11 f12 f61
     refine cI [0,1,11,12,61] fun F k=>?_;clear K H
     obtain⟨f0,f1,f11,f12,f61⟩:=k
     refine⟨bV,⟨?_,W.bR,by have:=W.c6;show bu<s.h.next+5+2+2;omega⟩,s.h.next+5+2,b6++ [0],by simp[an],by simp;omega,by rw[lY];simp[val];exact wT,nK.2 ⟨xs,lh.2 ⟨by decide,Small.nil⟩⟩,by have:=W.c6;omega,⟨by simp[an],bV _,by show s.h.next+5+2<s.h.next+5+2+2;omega⟩⟩
     show an (an s.h.cells r none) (s.h.next+5+2) _ bu=_
     have:=W.c6
     simp only[an]
     rw[if_neg (by omega),if_neg (fun h=>bG h.symm)]
     exact W.cells
 · rintro s ag ⟨bV,W,r,b6,nb,mq,wT,xs,bG,V⟩
   replace f0:=(ag 0 rfl).trans f0;replace f1:=(ag 1 rfl).trans f1;replace f10:=(ag 10 rfl).trans f10;replace f11:=(ag 11 rfl).trans f11
   clear f12
   have ad0:n<=A:=by rw[<-aq,<-a4];exact h_ L6
   obtain⟨m,hm⟩:∃m,A+1=m+n:=⟨A+1 - n,by omega⟩
   rw[hm] at nb mq
   have f12:=nb
   have hw:IntKind.i64.wrap (Z (m+n) - Z n)=Z m:=by rw[cf (by omega) (by omega)];rw[Nat.add_sub_cancel]
   have K2:IntKind.i64.wrap (Z m - Z 1)=eT m:=ko (by omega)
   have Xi:Z m*4<=140737488355328:=by simp only[Z];omega
   have K:=bw f0 f1 f10 f11 f12;clear f0 f1 f10 f11 f12
   refine bL [10,11,12,13,14,15,76] fun F k=>?_;clear K
   obtain⟨f10,f11,f12,f13,f14,f15,f76⟩:=k
   have H:=b4 hw K2 Xi (@y2)
   have K:=dq f10 f11 f12 f13 f14 f15 f76;clear f10 f11 f12 f13 f14 f15 f76
   refine cI [10,11,12,13,14,15,76] fun F k=>?_;clear K H
   obtain⟨f10,f11,f12,f13,f14,f15,f76⟩:=k
   obtain⟨q,aG⟩:∃q,q=s.h.next+3+4:=⟨_,rfl⟩
   rw[<-aG] at f14
   have sN:q≠r:=by have:=V.c6;omega
   have L9:q≠bu:=by have:=W.c6;omega
   have qZ:0<Y:=by have:=ju n;omega
   refine mF (fun k s=>k<=m/\LY m n e6 Y bu r q k s/\s.F 15= .int .i64 (eT k)) (LY m n e6 Y bu r q 0) (fun _=>False) m ?_ ?_ ?_ (fun _ _ h=>h.elim)
   · have wn:=W.c6
     have ad1:=V.c6
     refine⟨Nat.le_refl _,⟨bV,?_,b6,List.replicate m 0,mq,by simp,xs,py _,?_,?_,fun j _=>v7 _ _,by rw[r_,Nat.zero_mul,Nat.zero_add];exact wT,?_⟩,f15⟩
     · refine⟨?_,W.bR,by show bu<s.h.next+3+6+4;omega⟩
       show an s.h.cells (s.h.next+3+4) _ bu=_
       simp only[an]
       rw[if_neg (by omega)]
       exact W.cells
     · refine⟨?_,V.bR,by show r<s.h.next+3+6+4;omega⟩
       show an s.h.cells (s.h.next+3+4) _ r=_
       simp only[an]
       rw[if_neg (by omega)]
       exact V.cells
     · refine⟨?_,bV _,by show q<s.h.next+3+6+4;omega⟩
       show an s.h.cells (s.h.next+3+4) _ q=_
       rw[aG]
       simp only[an,if_true]
     · rw[wT]
       have e:ah m*ah n=ah A*4294967296:=by rw[<-iE,<-hm,dR]
       have ao:=Nat.mul_le_mul_left (ah m) sK
       rw[e,Nat.mul_left_comm] at ao
       omega
   · rintro k s ag ⟨ad2,⟨bV,W,b6,fD,mq,fs,xs,wU,V,je,wV,av,bq⟩,Eb⟩
     replace f10:=(ag 10 rfl).trans f10;replace f11:=(ag 11 rfl).trans f11;replace f12:=(ag 12 rfl).trans f12;replace f13:=(ag 13 rfl).trans f13;replace f14:=(ag 14 rfl).trans f14
     clear f15
     have nZ:=W.cells
     have pL:=kq (show 0<(ad Y).length by omega)
     cases k with
     | zero=>
       have f15:=Eb
       have K:=dW f10 f11 f12 f13 f14 f15;clear f10 f11 f12 f13 f14 f15
       refine bL [10,11,12,13,14,15,16,76,119] fun F k=>?_;clear K
       obtain⟨f10,f11,f12,f13,f14,f15,f16,f76,f119⟩:=k
       rw[nM] at f15
       have H:=(@qQ)
       have K:=h7 f10 f11 f12 f13 f14 f15 f16 f76 f119;clear f10 f11 f12 f13 f14 f15 f16 f76 f119
       refine cI [10,11,12,13,14,15,16,76,119] fun F k=>?_;clear K H
       obtain⟨f10,f11,f12,f13,f14,f15,f16,f76,f119⟩:=k
       exact ⟨bV,W.bump _ _ (by omega),b6,fD,mq,fs,xs,wU,V.bump _ _ (by omega),je.bump _ _ (by omega),wV,av,bq⟩
     | succ i=>
       rw[nN] at Eb
       have f15:=Eb
       have pF:i<m:=by omega
       obtain⟨oL,DG,Xj,Xk,Xl,ad3⟩:=W7 xs (by omega) uC sK bq
       have ed:=xs.aB (i+n)
       have cc:=xs.aB (i+n - 1)
       have tG:=xs.aB (i+n - 2)
       have Xm:=(dB Y).aB (n - 1)
       have Xn:=(dB Y).aB (n - 2)
       have oN:=Vq (aB b6 (i+n),aB b6 (i+n - 1),aB b6 (i+n - 2),aB (ad Y) (n - 1),aB (ad Y) (n - 2)) ⟨DG,cc,tG,Xm,Xn,Xj⟩ (args:=[bh (aB b6 (i+n)),bh (aB b6 (i+n - 1)),bh (aB b6 (i+n - 2)),bh (aB (ad Y) (n - 1)),bh (aB (ad Y) (n - 2))]) (by simp)
       simp only at oN
       have ad4:=KY (x2:=aB b6 (i+n)) (x1:=aB b6 (i+n - 1)) (x0:=aB b6 (i+n - 2)) (y1:=aB (ad Y) (n - 1)) (y0:=aB (ad Y) (n - 2))
       generalize lF (aB b6 (i+n)) (aB b6 (i+n - 1)) (aB b6 (i+n - 2)) (aB (ad Y) (n - 1)) (aB (ad Y) (n - 2))=g at*
       have kh:=V.cells
       have oM:=bV r
       obtain⟨kr,az,aV,ns,cW,rfl,W_,Ec,L_,uz,Xo,kL,ln⟩:=WB [] ⟨s.h.cells,s.h.shut,s.h.next+2+32+10,s.h.aS⟩ (id:=r) (ry:=bu) (off:=i) (n:=n) (cap:=m+n - i) (Yv:=Y) (g:=g) (V.bump _ _ (by omega)) (W.bump _ _ (by omega)) (Ne.symm bG) pN (by omega) xs (by omega) (by omega) (by omega)
       have Xp:val ns<ah i*ah (n+1):=by
        rw[<-iE];exact zw Ec (fun j aA=>by rw[L_ j (.inr (by omega))];exact LX xs oL (by omega))
       have Xq:val b6<ah i*ah (n+1):=by rw[<-iE];exact oL
       obtain⟨Xr,Xs,L',ad5⟩:=WV (ju i) qZ rfl Xk Xl Xo uz Xp Xq
       generalize val b6/ah i/Y=Q at*
       have c6:=je.c6
       have pO:=V.c6
       have zy:=W.c6
       have zz:az.cells q=some (a' fD):=by rw[ln.cells q (by show q<s.h.next+2+32+10;omega) sN];exact je.cells
       have zA:=kq (show 0<fD.length by omega)
       have zB:∀j,az.shut j=false:=fun j=>by rw[ln.shut];exact bV j
       have DY:=zB q
       have zC:∀v,val (fD.set i v)=val fD+ah i*v:=fun v=>by
        have:=mI v (show i<fD.length by omega)
        rw[wV i (by omega),Nat.mul_zero,Nat.add_zero] at this;exact this
       have Xt:=ln.next
       simp only at Xt
       rcases (show cW=0\/cW=1 by omega) with rfl|rfl
       · obtain⟨rfl,ae⟩:=Xr rfl
         obtain⟨Ed,Ee⟩:=L2 (zC g) av ae L'
         have Xu:=ln.vec (W.bump (s.h.next+2+32+10) s.h.aS (by omega)) (Ne.symm bG)
         have Ef:=ln.vec (je.bump (s.h.next+2+32+10) s.h.aS (by omega)) sN
         have Eg:=W8 (by omega) (by omega) pF pN mq fs f10 f11 f12 f13 f14 f15 kh nZ oM pO zy oN (by omega) (aV.trans (by simp)) zz DY
         refine Eg.mono fun ex aj ⟨hex,Eh,ey,tZ,cw⟩=>?_
         subst hex
         show ∃j,_
         refine⟨i,Nat.lt_succ_self i,by omega,?_,Eh⟩
         refine⟨?_,?_,ns,fD.set i g,by omega,by rw[List.length_set];exact fs,Ec,mJ wU (by omega),?_,?_,fun j aA=>by rw[m9 _ _ (by omega),if_neg (by omega)];exact wV j (by omega),Ed,Ee⟩
         · rw[cw];exact zB
         · rw[cw];exact Xu.off (Ne.symm L9) _ _ _ (by omega)
         · rw[cw];exact kL.off (Ne.symm sN) _ _ _ (by omega)
         · rw[cw];exact Ef.put _ _ _ (by omega)
       · obtain⟨rfl,ae⟩:=Xs rfl
         have Ma:=ln.vec (W.bump (s.h.next+2+32+10) s.h.aS (by omega)) (Ne.symm bG)
         obtain⟨v4,aT,bJ,vr,d4,rfl,ad6,Mb,Xv,Xw,sO,nd⟩:=WI [] ⟨az.cells,az.shut,az.next+3+9,az.aS⟩ (id:=r) (ry:=bu) (off:=i) (n:=n) (cap:=m+n - i) (Yv:=Y) (kL.bump _ _ (by omega)) (Ma.bump _ _ (by omega)) (Ne.symm bG) pN (by omega) Ec (by omega) (by omega)
         have Xx:val vr<ah i*ah (n+1):=by
          rw[<-iE];exact zw Mb (fun j aA=>by rw[Xv j (.inr (by omega)),L_ j (.inr (by omega))];exact LX xs oL (by omega))
         have Xy:=ae (val vr) d4 Xw Xx
         have Xz:=nd.next
         simp only at Xz
         have D9:aT.cells q=some (a' fD):=by rw[nd.cells q (by show q<az.next+3+9;omega) sN];exact zz
         have Mc:∀j,aT.shut j=false:=fun j=>by rw[nd.shut];exact zB j
         have D_:=Mc q
         obtain⟨Ed,Ee⟩:=L2 (zC Q) av Xy L'
         have XA:=nd.vec (Ma.bump (az.next+3+9) az.aS (by omega)) (Ne.symm bG)
         have Ef:=ln.vec (je.bump (s.h.next+2+32+10) s.h.aS (by omega)) sN
         have XB:=nd.vec (Ef.bump (az.next+3+9) az.aS (by omega)) sN
         have Eg:=W9 (by omega) (by omega) pF pN mq fs f10 f11 f12 f13 f14 f15 kh nZ oM pO zy oN (by omega) (aV.trans (by simp)) (by omega) (by omega) (show ns.length=m+n by omega) kL.cells (zB r) bJ D9 D_
         refine Eg.mono fun ex aj ⟨hex,Eh,ey,tZ,cw⟩=>?_
         subst hex
         show ∃j,_
         refine⟨i,Nat.lt_succ_self i,by omega,?_,Eh⟩
         refine⟨?_,?_,vr,fD.set i Q,by omega,by rw[List.length_set];exact fs,Mb,mJ wU (by omega),?_,?_,fun j aA=>by rw[m9 _ _ (by omega),if_neg (by omega)];exact wV j (by omega),Ed,Ee⟩
         · rw[cw];exact Mc
         · rw[cw];exact XA.off (Ne.symm L9) _ _ _ (by omega)
         · rw[cw];exact sO.off (Ne.symm sN) _ _ _ (by omega)
         · rw[cw];exact XB.put _ _ _ (by omega)
   · rintro s ag ⟨bV,W,b6,fD,mq,fs,xs,wU,V,je,wV,av,bq⟩
     replace f10:=(ag 10 rfl).trans f10;replace f11:=(ag 11 rfl).trans f11;replace f12:=(ag 12 rfl).trans f12;replace f13:=(ag 13 rfl).trans f13;replace f14:=(ag 14 rfl).trans f14
     clear f15
     rw[fp,Nat.one_mul] at bq
     obtain⟨Md,XC⟩:val fD=e6/Y/\val b6=e6%Y:=by
      have:e6/Y=val fD/\e6%Y=val b6:=(Nat.div_mod_unique qZ).2 ⟨by rw[Nat.mul_comm];omega,bq⟩
      exact ⟨this.1.symm,this.2.symm⟩
     have Me:e6/Y=a/b:=by rw[<-lQ,<-mg];exact Nat.mul_div_mul_right _ _ (Nat.pow_pos (by decide))
     have XD:e6%Y/2^ss=a%b:=by
      rw[<-lQ,<-mg,Nat.mul_mod_mul_right];exact Nat.mul_div_cancel _ (Nat.pow_pos (by decide))
     have XE:val fD=a/b:=Md.trans Me
     clear Md Me
     obtain⟨pH,b9,eW,Ei⟩:=DB [] ⟨s.h.cells,s.h.shut,s.h.next+9,s.h.aS⟩ bV (q:=q) (o:=fD) (je.bump _ _ (by omega)) wU (by omega) (by omega)
     obtain⟨v6,ei,kO,Ej⟩:=DB [] b9 (fun j=>by rw[Ei.kept.shut];exact bV j) (q:=r) (o:=b6) ((V.bump (s.h.next+9) s.h.aS (by omega)).kept Ei.kept) xs (by omega) (by omega)
     have Mf:=Ei.later Ej.kept
     rw[XE] at Mf
     rw[XC] at Ej
     obtain⟨ad7,ad8,XF⟩:=Mf.outs
     obtain⟨ad9,XG,Mg⟩:=Ej.outs
     have XH:=Mg ei.shut ei.next ei.aS
     have XI:(ad (e6%Y)).length<=100000000:=by
      have:=h_ (Nat.le_of_lt (Nat.mod_lt e6 qZ))
      omega
     have Mh:=Kx (e6%Y,ss) ⟨XI,by simp only;omega⟩ (args:=[bY (ad (e6%Y)) XG,aR ss]) (by simp)
     simp only[XD] at Mh
     have aea:=f10
     rw[fs] at eW
     rw[mq] at kO
     generalize e6%Y=aeb at*
     generalize a/b=aec at*
     generalize a%b=ql at*
     have K:=bt f10 f12 f14;clear f10 f12 f14
     refine bL [4,5,6,10,12,14] fun F k=>?_;clear K
     obtain⟨f4,f5,f6,f10,f12,f14⟩:=k
     have H:=dW eW kO Mg XH Mh XF
     have K:=dW f4 f5 f6 f10 f12 f14;clear f4 f5 f6 f10 f12 f14
     exact kT [4,5,6,10,12,14]
end
end
section
open Go Go.Eng Go.RowKit
theorem XJ:aP Tryz.prog G 205 zv:=
 WQ (fun z w h=>by
  simp only[List.cons.injEq,cD,and_true] at h
  rw[h.1,h.2]) wQ W2 Xf
end
section
set_option maxHeartbeats 8000000
open Go Go.Eng Go.RowKit
attribute [local simp] aU.m aU.o aU.n aU.g eM dN cE ch cM evalOp.eq_1 evalOp.eq_2 evalOp.eq_3 evalOp.eq_4 evalOp.eq_5 evalOp.eq_6 evalOp.eq_7 evalOp.eq_8 evalOp.eq_9 evalOp.eq_10 evalOp.eq_11 evalOp.eq_12 evalOp.eq_13 evalOp.eq_14 evalOp.eq_15 evalOp.eq_16 evalOp.eq_17 evalOp.eq_18 evalOp.eq_19 evalOp.eq_20 evalOp.eq_21 evalOp.eq_22 evalOp.eq_23 evalOp.eq_24 evalOp.eq_25 evalOp.eq_27 evalOp.eq_28 evalOp.eq_29 hX aQ.ev cg an af.new ds I.cells I.bW I.dk I.dh fU fW fV fX fZ fY hh hi hj e7 e8 cut partOf bound elems hl hn ho hp hq hr hs ht hv hx hy hz fm hA hB hC hD hE hF hG hH hI hJ hK hL hM hN hO hP hQ hR hS hT hU hV hW dM dC dz eF f_ fz af.close af.set fB hY hZ h0 hk fA fy fa dP fj fL fk fl fM fN fO eC eD eE eB f' bD fJ ga fK gb gd eo gf ep gg gh gi e1 hg gj gk gl gm gn gp gq gr gu gv gw gx gy gz gA gB gC gD gE e_ gF gG gH gI gJ gK gL gM gN gO gP gQ gR gS gT
attribute [local simp high] hc hd hf gU gV gW gX gY gZ g0 g1 g2 g3 g4 g5 g6 g7 g8 g9 g_ g' ha hb
attribute [local simp] aD List.getElem?_cons_zero List.getElem?_cons_succ dc cf eY Nat.mod_eq_of_lt ig ih ij ik e2 il im iq
section
attribute [local irreducible] a7
attribute [local simp] c5 cZ ck
noncomputable def XK:FuncId->Option (List I->Option I):=cA []
theorem XL:∀f T,XK f=some T->aP Tryz.prog G f T:=cH (by simp)
theorem Mi:ai 1= .sl [.int .u32 (Z 1)] false:=by simp only[ai,nL];rfl
noncomputable def zD:List I->Option I:=bl (fun z:Unit=>True) (fun z=>[]) (fun z=>ai 1)
theorem XM (z:Unit) (h:True) {args:List I} (he:args.map I.loose= []):zD args=some (ai 1):=bC (fun z w h=>by simp only[List.cons.injEq,I.int.injEq,I.bool.injEq,I.sl.injEq,cD,cB,cO,cP,cK,bO,b2,cJ,bD,true_and,and_true] at h;simp[h]) z h he
theorem XN:aP Tryz.prog G 175 zD:=by
 refine bB mixed XL IL fun z ar=>?_
 rw[Mi]
 unfold i175
 refine aL [0] fun F K=>?_
 have f0:=K;clear K
 have H:=trivial
 have K:=f0;clear f0
 exact a3 [0]
noncomputable def uD:FuncId->Option (List I->Option I):=cA [(205,zv),(174,jv),(185,oG),(84,nT),(175,zD)]
theorem XO:∀f T,uD f=some T->aP Tryz.prog G f T:=cH (by simp only[List.forall_mem_cons];exact ⟨XJ,t',yK,yV,XN,fun _ h=>absurd h (by simp)⟩)
theorem XP:uD 205=some zv:=rfl
theorem XQ:uD 174=some jv:=rfl
theorem XR:uD 185=some oG:=rfl
theorem XS:uD 84=some nT:=rfl
theorem XT:uD 175=some zD:=rfl
attribute [local simp] XP XQ XR XS XT
noncomputable def zE:List I->Option I:=bl (fun z:Int × Int=>aY z.1<=1000000/\aY z.2<=1000000) (fun z=>[ax z.1,ax z.2]) (fun z=>if z.2=0 then .bo [ax 0,ax 0,aR 3] else .bo [ax (z.1/z.2),ax (z.1%z.2),aR 0])
theorem XU (z:Int × Int) (h:aY z.1<=1000000/\aY z.2<=1000000) {args:List I} (he:args.map I.loose= [ax z.1,ax z.2]):zE args=some (if z.2=0 then .bo [ax 0,ax 0,aR 3] else .bo [ax (z.1/z.2),ax (z.1%z.2),aR 0]):=bC (fun z w h=>by simp only[List.cons.injEq,I.int.injEq,I.bool.injEq,I.sl.injEq,cD,cB,cO,cP,cK,bO,b2,cJ,bD,true_and,and_true] at h;simp[h]) z h he
theorem XV:aP Tryz.prog G 183 zE:=by
 refine bB mixed XO IT fun z ar=>?_
 obtain⟨a,b⟩:=z
 obtain⟨aK,aa⟩:=ar
 simp only[aY] at aK aa|-
 have ez:=W1 (a.natAbs,b.natAbs) ⟨by simp only;omega,by simp only;omega⟩ (args:=[ai a.natAbs,ai b.natAbs]) (by simp)
 simp only at ez
 unfold i183
 by_cases du:b=0
 · rw[if_pos du]
   subst du
   rw[if_pos (show (0:Int).natAbs=0 from rfl)] at ez
   have dS:ad 0= []:=eS
   have dE:bc 0=false:=rfl
   simp only[ai,bY,Int.natAbs_zero,dS,List.map_nil] at ez
   refine aL [0,1,2,3,4,5,6,7,8,9,20,30] fun F K=>?_
   obtain⟨f0,f1,f2,f3,f4,f5,f6,f7,f8,f9,f20,f30⟩:=K
   have H:=bt ez dS dE
   have K:=jK f0 f1 f2 f3 f4 f5 f6 f7 f8 f9 f20 f30;clear f0 f1 f2 f3 f4 f5 f6 f7 f8 f9 f20 f30
   repeat' (first|refine dY ?_|refine dZ ?_|((first|refine er ?_|refine et ?_|refine eu ?_|exact d'|refine d_ ?_);try(refine eI [0,1,2,3,4,5,6,7,8,9,20,30] fun F k=>?_;replace K:=k;clear k))|(refine ea (fun J=>?_) (fun J=>?_)<;>first|(exfalso;simp(disch:=omega) [H] at J;done)|(exfalso;simp at J;omega)|simp at J)|((first|refine bU ?_|refine c9 ?_);simp(disch:=omega) [H,K,dS,dE])|exact trivial)
   all_goals obtain⟨f0,f1,f2,f3,f4,f5,f6,f7,f8,f9,f20,f30⟩:=K
 · rw[if_neg du]
   rw[if_neg (by omega)] at ez
   have aG:=h_ (Nat.div_le_self a.natAbs b.natAbs)
   have aH:=h_ (Nat.mod_le a.natAbs b.natAbs)
   by_cases ar:bc a=false\/a.natAbs%b.natAbs=0
   · obtain⟨d1,d2⟩:=LQ a b du ar
     have t1:=m' (b:=bc a != bc b) (n:=a.natAbs/b.natAbs) (by omega)
     have t2:=m' (b:=false) (n:=a.natAbs%b.natAbs) (by omega)
     rw[d1] at t1
     rw[d2] at t2
     clear d1 d2
     generalize a/b=Q at*
     generalize a%b=R at*
     generalize a.natAbs/b.natAbs=q at*
     generalize a.natAbs%b.natAbs=r at*
     cases a4:bc a<;>cases bj:bc b<;>rw[a4,bj] at t1<;>simp only[bne,beq_self_eq_true,Bool.not_true,Bool.not_false,show (false == true)=false from rfl,show (true == false)=false from rfl] at t1
     · skip
       refine aL [0,1,2,3,4,5,6,7,8,9,20,30] fun F K=>?_
       obtain⟨f0,f1,f2,f3,f4,f5,f6,f7,f8,f9,f20,f30⟩:=K
       have H:=bw a4 bj ez t1 t2
       have K:=jK f0 f1 f2 f3 f4 f5 f6 f7 f8 f9 f20 f30;clear f0 f1 f2 f3 f4 f5 f6 f7 f8 f9 f20 f30
       exact a3 [0,1,2,3,4,5,6,7,8,9,20,30]
     · skip
       refine aL [0,1,2,3,4,5,6,7,8,9,20,30] fun F K=>?_
       obtain⟨f0,f1,f2,f3,f4,f5,f6,f7,f8,f9,f20,f30⟩:=K
       have H:=bw a4 bj ez t1 t2
       have K:=jK f0 f1 f2 f3 f4 f5 f6 f7 f8 f9 f20 f30;clear f0 f1 f2 f3 f4 f5 f6 f7 f8 f9 f20 f30
       exact a3 [0,1,2,3,4,5,6,7,8,9,20,30]
     · have dS:ad r= []:=jN.2 (ar.resolve_left (by rw[a4];decide))
       simp only[ai,bY,dS,List.map_nil] at ez t2
       refine aL [0,1,2,3,4,5,6,7,8,9,20,30] fun F K=>?_
       obtain⟨f0,f1,f2,f3,f4,f5,f6,f7,f8,f9,f20,f30⟩:=K
       have H:=bw a4 bj ez t1 t2
       have K:=jK f0 f1 f2 f3 f4 f5 f6 f7 f8 f9 f20 f30;clear f0 f1 f2 f3 f4 f5 f6 f7 f8 f9 f20 f30
       exact a3 [0,1,2,3,4,5,6,7,8,9,20,30]
     · have dS:ad r= []:=jN.2 (ar.resolve_left (by rw[a4];decide))
       simp only[ai,bY,dS,List.map_nil] at ez t2
       refine aL [0,1,2,3,4,5,6,7,8,9,20,30] fun F K=>?_
       obtain⟨f0,f1,f2,f3,f4,f5,f6,f7,f8,f9,f20,f30⟩:=K
       have H:=bw a4 bj ez t1 t2
       have K:=jK f0 f1 f2 f3 f4 f5 f6 f7 f8 f9 f20 f30;clear f0 f1 f2 f3 f4 f5 f6 f7 f8 f9 f20 f30
       exact a3 [0,1,2,3,4,5,6,7,8,9,20,30]
   · have a4:bc a=true:=by cases h:bc a<;>simp[h] at ar|-
     have qw:a.natAbs%b.natAbs≠0:=fun h=>ar (.inr h)
     obtain⟨d1,d2⟩:=LR a b du a4 qw
     have sP:=mK (a:=a.natAbs/b.natAbs) (b:=1) (e:=false) (e':=false) (by omega) (by rw[nL];decide)
     have dV:=wj (a:=b.natAbs) (b:=a.natAbs%b.natAbs) (e:=false) (e':=false) (by omega) (by omega)
     have XW:=Nat.mod_lt a.natAbs (show 0<b.natAbs by omega)
     rw[if_neg (by omega)] at dV
     have aw:=j' (a.natAbs/b.natAbs) 1
     have cc:(ad 1).length=1:=by rw[nL];rfl
     have jm:=h_ (Nat.sub_le b.natAbs (a.natAbs%b.natAbs))
     have t1:=m' (b:=bc a != bc b) (n:=a.natAbs/b.natAbs+1) (by omega)
     have t2:=m' (b:=false) (n:=b.natAbs - a.natAbs%b.natAbs) (by omega)
     rw[d1] at t1
     rw[d2] at t2
     have Mj:=XM () trivial (args:=[]) rfl
     clear d1 d2
     have aq:¬ad (a.natAbs%b.natAbs)= []:=fun h=>qw (jN.1 h)
     have lD:0<(ad (a.natAbs%b.natAbs)).length:=lz.2 qw
     generalize a/b=Q at*
     generalize a%b=R at*
     generalize a.natAbs/b.natAbs=q at*
     generalize a.natAbs%b.natAbs=r at*
     rw[a4] at t1
     cases bj:bc b<;>rw[bj] at t1<;>simp only[bne,beq_self_eq_true,Bool.not_true,Bool.not_false,show (false == true)=false from rfl,show (true == false)=false from rfl] at t1
     · skip
       refine aL [0,1,2,3,4,5,6,7,8,9,20,30] fun F K=>?_
       obtain⟨f0,f1,f2,f3,f4,f5,f6,f7,f8,f9,f20,f30⟩:=K
       have H:=iU a4 bj ez aq lD Mj sP dV t1 t2
       have K:=jK f0 f1 f2 f3 f4 f5 f6 f7 f8 f9 f20 f30;clear f0 f1 f2 f3 f4 f5 f6 f7 f8 f9 f20 f30
       exact a3 [0,1,2,3,4,5,6,7,8,9,20,30]
     · skip
       refine aL [0,1,2,3,4,5,6,7,8,9,20,30] fun F K=>?_
       obtain⟨f0,f1,f2,f3,f4,f5,f6,f7,f8,f9,f20,f30⟩:=K
       have H:=iU a4 bj ez aq lD Mj sP dV t1 t2
       have K:=jK f0 f1 f2 f3 f4 f5 f6 f7 f8 f9 f20 f30;clear f0 f1 f2 f3 f4 f5 f6 f7 f8 f9 f20 f30
       exact a3 [0,1,2,3,4,5,6,7,8,9,20,30]
noncomputable def Ek:FuncId->Option (List I->Option I):=cA [(183,zE),(87,qM)]
theorem XX:∀f T,Ek f=some T->aP Tryz.prog G f T:=cH (by simp only[List.forall_mem_cons];exact ⟨XV,C',fun _ h=>absurd h (by simp)⟩)
theorem XY:Ek 183=some zE:=rfl
theorem XZ:Ek 87=some qM:=rfl
attribute [local simp] XY XZ
theorem El {z:Int} (h:z≠0):(h1 z == Z 0)=false/\(h1 z != Z 0)=true:=by
 simp only[h1,Z]
 rw[if_neg h]
 split<;>exact ⟨rfl,rfl⟩
noncomputable def zF:List I->Option I:=bl (fun z:Int × Int=>aY z.1<=1000000/\aY z.2<=1000000) (fun z=>[ax z.1,ax z.2]) (fun z=>if z.2=0\/z.1%z.2≠0 then .bo [ax 0,.bool false] else .bo [ax (z.1/z.2),.bool true])
theorem X0 (z:Int × Int) (h:aY z.1<=1000000/\aY z.2<=1000000) {args:List I} (he:args.map I.loose= [ax z.1,ax z.2]):zF args=some (if z.2=0\/z.1%z.2≠0 then .bo [ax 0,.bool false] else .bo [ax (z.1/z.2),.bool true]):=bC (fun z w h=>by simp only[List.cons.injEq,I.int.injEq,I.bool.injEq,I.sl.injEq,cD,cB,cO,cP,cK,bO,b2,cJ,bD,true_and,and_true] at h;simp[h]) z h he
theorem X1:aP Tryz.prog G 115 zF:=by
 refine bB mixed XX Iu fun z ar=>?_
 obtain⟨a,b⟩:=z
 have ez:=XU (a,b) ar (args:=[ax a,ax b]) (by simp)
 have dV:=C_ (a%b) trivial (args:=[ax (a%b)]) (by simp)
 simp only at ez|-
 unfold i115
 have dS:ad 0= []:=eS
 have dE:bc 0=false:=rfl
 by_cases du:b=0
 · rw[if_pos du] at ez
   rw[if_pos (.inl du)]
   simp only[ax,dS,dE,Int.natAbs_zero,ai,bY,List.map_nil] at ez
   refine aL [0,1,2,3,4,5,6,7,8,22] fun F K=>?_
   obtain⟨f0,f1,f2,f3,f4,f5,f6,f7,f8,f22⟩:=K
   have H:=ez
   have K:=iU f0 f1 f2 f3 f4 f5 f6 f7 f8 f22;clear f0 f1 f2 f3 f4 f5 f6 f7 f8 f22
   repeat' (first|refine dY ?_|refine dZ ?_|((first|refine er ?_|refine et ?_|refine eu ?_|exact d'|refine d_ ?_);try(refine eI [0,1,2,3,4,5,6,7,8,22] fun F k=>?_;replace K:=k;clear k))|(refine ea (fun J=>?_) (fun J=>?_)<;>first|(exfalso;simp(disch:=omega) [H] at J;done)|(exfalso;simp at J;omega)|simp at J)|((first|refine bU ?_|refine c9 ?_);simp(disch:=omega) [H,K,dS,dE])|exact trivial)
   all_goals obtain⟨f0,f1,f2,f3,f4,f5,f6,f7,f8,f22⟩:=K
 · rw[if_neg du] at ez
   by_cases aH:a%b=0
   · rw[if_neg (by simp[du,aH])]
     have k9:h1 (a%b)=Z 0:=by rw[aH];rfl
     rw[k9] at dV
     clear aH k9
     generalize a/b=q at*
     generalize a%b=r at*
     refine aL [0,1,2,3,4,5,6,7,8,22] fun F K=>?_
     obtain⟨f0,f1,f2,f3,f4,f5,f6,f7,f8,f22⟩:=K
     have H:=bA ez dV
     have K:=iU f0 f1 f2 f3 f4 f5 f6 f7 f8 f22;clear f0 f1 f2 f3 f4 f5 f6 f7 f8 f22
     exact a3 [0,1,2,3,4,5,6,7,8,22]
   · rw[if_pos (.inr aH)]
     obtain⟨s1,s2⟩:=El aH
     generalize a/b=q at*
     generalize h1 (a%b)=zG at*
     generalize a%b=r at*
     refine aL [0,1,2,3,4,5,6,7,8,22] fun F K=>?_
     obtain⟨f0,f1,f2,f3,f4,f5,f6,f7,f8,f22⟩:=K
     have H:=b4 ez dV s1 s2
     have K:=iU f0 f1 f2 f3 f4 f5 f6 f7 f8 f22;clear f0 f1 f2 f3 f4 f5 f6 f7 f8 f22
     repeat' (first|refine dY ?_|refine dZ ?_|((first|refine er ?_|refine et ?_|refine eu ?_|exact d'|refine d_ ?_);try(refine eI [0,1,2,3,4,5,6,7,8,22] fun F k=>?_;replace K:=k;clear k))|(refine ea (fun J=>?_) (fun J=>?_)<;>first|(exfalso;simp(disch:=omega) [H] at J;done)|(exfalso;simp at J;omega)|simp at J)|((first|refine bU ?_|refine c9 ?_);simp(disch:=omega) [H,K,dS,dE])|exact trivial)
     all_goals obtain⟨f0,f1,f2,f3,f4,f5,f6,f7,f8,f22⟩:=K
end
end
section
@[ext] structure Ser where
  c:Nat->Int
namespace Ser
def conv:Nat->(Nat->Int)->(Nat->Int)->Int
 | 0,f,g=>f 0*g 0
 | n+1,f,g=>f 0*g (n+1)+conv n (fun i=>f (i+1)) g
theorem Em:∀n f g h,conv n f (fun i=>g i+h i)=conv n f g+conv n f h
 | 0,f,g,h=>by simp only[conv];grind
 | n+1,f,g,h=>by simp only[conv];rw[Em n];grind
theorem Mk:∀n f g,conv (n+1) f g=conv n f (fun i=>g (i+1))+f (n+1)*g 0
 | 0,f,g=>by simp only[conv]
 | n+1,f,g=>by
   rw[conv,Mk n,conv];grind
theorem uE:∀n f g,conv n f g=conv n g f
 | 0,f,g=>by simp only[conv];grind
 | n+1,f,g=>by rw[conv,Mk,uE n];grind
theorem Ml (n f g h):conv n (fun i=>g i+h i) f=conv n g f+conv n h f:=by
 rw[uE,Em,uE n f g,uE n f h]
theorem Mm:∀n c f g,conv n (fun i=>c*f i) g=c*conv n f g
 | 0,c,f,g=>by simp only[conv];grind
 | n+1,c,f,g=>by simp only[conv];rw[Mm n c (fun i=>f (i+1))];grind
theorem Mn:∀n f g h,conv n (fun k=>conv k f g) h=conv n f (fun k=>conv k g h)
 | 0,f,g,h=>by simp only[conv];grind
 | n+1,f,g,h=>by
   rw[conv]
   simp only[conv]
   rw[Ml,Mm,Mn n]
   grind
theorem Mo:∀n f,conv n f (fun _=>0)=0
 | 0,f=>by simp only[conv];grind
 | n+1,f=>by simp only[conv];rw[Mo n];grind
def C (z:Int):Ser:=⟨fun i=>if i=0 then z else 0⟩
theorem Mp (n:Nat) (z:Int) (g:Nat->Int):conv n (C z).c g=z*g n:=by
 cases n with
 | zero=>simp[conv,C]
 | succ n=>
   rw[conv,uE]
   have:(fun i=>(C z).c (i+1))=fun _=>0:=by funext i;simp[C]
   rw[this,Mo]
   simp[C]
instance:Add Ser:=⟨fun f g=>⟨fun i=>f.c i+g.c i⟩⟩
instance:Mul Ser:=⟨fun f g=>⟨fun i=>conv i f.c g.c⟩⟩
instance:Neg Ser:=⟨fun f=>⟨fun i=> -f.c i⟩⟩
instance:Sub Ser:=⟨fun f g=>⟨fun i=>f.c i - g.c i⟩⟩
instance:NatCast Ser:=⟨fun n=>C n⟩
instance:IntCast Ser:=⟨C⟩
instance (n:Nat):OfNat Ser n:=⟨C n⟩
def npow (f:Ser):Nat->Ser
 | 0=>C 1
 | n+1=>npow f n*f
instance:HPow Ser Nat Ser:=⟨npow⟩
instance:SMul Nat Ser:=⟨fun n f=>(C n)*f⟩
instance:SMul Int Ser:=⟨fun n f=>(C n)*f⟩
theorem q1 (f g:Ser) (i:Nat):(f+g).c i=f.c i+g.c i:=rfl
theorem zH (f g:Ser) (i:Nat):(f - g).c i=f.c i - g.c i:=rfl
theorem Mq (f:Ser) (i:Nat):(-f).c i= -f.c i:=rfl
theorem Mr (f g:Ser) (i:Nat):(f*g).c i=conv i f.c g.c:=rfl
theorem pP (z:Int) (i:Nat):(C z).c i=if i=0 then z else 0:=rfl
theorem n2 (z:Int) (f:Ser) (i:Nat):(C z*f).c i=z*f.c i:=Mp i z f.c
theorem X2 (a b:Int):C (a+b)=C a+C b:=by ext i;simp only[q1,pP];split<;>simp
theorem Ms (a:Int):C (-a)= -C a:=by ext i;simp only[Mq,pP];split<;>simp
theorem Mt (a b:Int):C (a*b)=C a*C b:=by ext i;rw[n2];simp only[pP];split<;>simp
theorem zI (f g:Ser):f*g=g*f:=by ext i;exact uE i f.c g.c
instance:Lean.Grind.CommRing Ser where
 nsmul:=inferInstance
 zsmul:=inferInstance
 add_zero a:=by ext i;show a.c i+(C 0).c i=a.c i;simp[pP]
 add_comm a b:=by ext i;simp only[q1];omega
 add_assoc a b c:=by ext i;simp only[q1];omega
 mul_assoc a b c:=by ext i;exact Mn i a.c b.c c.c
 mul_one a:=by rw[zI];ext i;show (C 1*a).c i=a.c i;rw[n2];simp
 left_distrib a b c:=by ext i;exact Em i a.c b.c c.c
 zero_mul a:=by ext i;show (C 0*a).c i=(C 0).c i;rw[n2];simp[pP]
 pow_zero a:=rfl
 pow_succ a n:=rfl
 ofNat_succ n:=by show C ((n+1:Nat):Int)=C n+C 1;rw[<-X2];rfl
 neg_add_cancel a:=by ext i;show -a.c i+a.c i=(C 0).c i;simp[pP];omega
 sub_eq_add_neg a b:=by ext i;show a.c i - b.c i=a.c i+ -b.c i;omega
 neg_zsmul n a:=by show C (-n)*a= -(C n*a);ext i;rw[Mq,n2,n2,Int.neg_mul]
 intCast_neg n:=Ms n
 mul_comm:=zI
 one_mul a:=by ext i;show (C 1*a).c i=a.c i;rw[n2];simp
 right_distrib a b c:=by ext i;exact Ml i c.c a.c b.c
 mul_zero a:=by rw[zI];ext i;show (C 0*a).c i=(C 0).c i;rw[n2];simp[pP]
theorem X3:C 0=0:=rfl
theorem Mu:C 1=1:=rfl
theorem En (i:Nat):(0:Ser).c i=0:=by show (if i=0 then (0:Int) else 0)=0;split<;>rfl
def mono (n:Nat) (z:Int):Ser:=⟨fun i=>if i=n then z else 0⟩
theorem sQ (n:Nat) (z:Int) (i:Nat):(mono n z).c i=if i=n then z else 0:=rfl
theorem Mv (z:Int):mono 0 z=C z:=rfl
def X:Ser:=mono 1 1
theorem Eo (f:Ser) (i:Nat):(X*f).c i=if i=0 then 0 else f.c (i - 1):=by
 rw[Mr]
 cases i with
 | zero=>simp[conv,X,sQ]
 | succ i=>
   have e:(fun i=>X.c (i+1))=(C 1).c:=by
    funext i
    by_cases h:i=0<;>simp[X,sQ,pP,h]
   rw[conv,e,Mp]
   simp[X,sQ]
theorem Mw (n:Nat) (z:Int):X*mono n z=mono (n+1) z:=by
 ext i
 rw[Eo,sQ,sQ]
 cases i with
 | zero=>simp
 | succ i=>simp
theorem wW:∀(n:Nat) (z:Int),mono n z=C z*X^n
 | 0,z=>by rw[Mv];grind
 | n+1,z=>by rw[<-Mw,wW n z];grind
end Ser
open Ser
def a9 (l:List Int):Ser:=⟨fun i=>l.getD i 0⟩
theorem kb (l:List Int) (i:Nat):(a9 l).c i=l.getD i 0:=rfl
theorem nf:a9 []=0:=by ext i;rw[En];rfl
theorem sR (x:Int) (l:List Int):a9 (x::l)=C x+X*a9 l:=by
 ext i
 rw[q1,Eo,pP,kb]
 cases i<;>simp[kb]
theorem Mx:∀(a b:List Int),a9 (a++b)=a9 a+X^a.length*a9 b
 | [],b=>by rw[nf,List.nil_append,List.length_nil];grind
 | x::a,b=>by rw[List.cons_append,sR,Mx a b,sR,List.length_cons];grind
theorem Ep {l:List Int} {i:Nat} (h:i<l.length) (v:Int):a9 (l.set i v)=a9 l+mono i (v - l.getD i 0):=by
 ext j
 rw[q1,sQ,kb,kb]
 by_cases e:i=j
 · subst e;simp[h];omega
 · simp[List.getElem?_set_ne e];rw[if_neg (by omega)];omega
theorem Er (l:List Int) (i:Nat):a9 (l.take (i+1))=a9 (l.take i)+mono i (l.getD i 0):=by
 ext j
 rw[q1,sQ,kb,kb]
 simp only[List.getD_eq_getElem?_getD,List.getElem?_take]
 by_cases h:j<i
 · rw[if_pos (by omega),if_pos h,if_neg (by omega)];omega
 · by_cases e:j=i
   · subst e;simp
   · rw[if_neg (by omega),if_neg h,if_neg e];rfl
theorem zJ (n:Nat):a9 (List.replicate n 0)=0:=by
 ext i;rw[kb,En];simp[List.getElem?_replicate];split<;>rfl
def eU (l:List Int):Prop:=l= []\/l.getD (l.length - 1) 0≠0
theorem ng {a b:List Int} (aK:eU a) (aa:eU b) (h:a9 a=a9 b):a=b:=by
 have J:∀i,a.getD i 0=b.getD i 0:=fun i=>congrArg (fun s=>s.c i) h
 have aux:∀ {a b:List Int},eU b->(∀i,a.getD i 0=b.getD i 0)->b.length<=a.length:=by
  intro a b aa J
  refine Nat.le_of_not_lt fun aw=>?_
  rcases aa with rfl|aa
  · simp at aw
  · apply aa;rw[<-J,List.getD_eq_getElem?_getD,List.getElem?_eq_none (by omega)];rfl
 have aw:a.length=b.length:=Nat.le_antisymm (aux aK fun i=>(J i).symm) (aux aa J)
 refine List.ext_getElem aw fun i U h2=>?_
 have:=J i
 simpa[List.getD_eq_getElem?_getD,U,h2] using this
def strip:List Int->List Int
 | []=>[]
 | x::l=>match strip l with
   | []=>if x=0 then [] else [x]
   | y::r=>x::y::r
theorem n3:∀l,a9 (strip l)=a9 l
 | []=>rfl
 | x::l=>by
   rw[sR,<-n3 l,strip]
   cases h:strip l with
   | nil=>
     simp only
     split
     · rename_i ae;rw[ae,nf,X3];grind
     · rw[sR]
   | cons y r=>simp only;rw[sR x]
theorem sS:∀l,eU (strip l)
 | []=> .inl rfl
 | x::l=>by
   rw[strip]
   have a6:=sS l
   cases h:strip l with
   | nil=>
     simp only
     split
     · exact .inl rfl
     · exact .inr (by simpa)
   | cons y r=>
     rw[h] at a6
     right
     rcases a6 with a6|a6
     · cases a6
     · simpa using a6
theorem q2:∀l,(strip l).length<=l.length
 | []=>Nat.le_refl _
 | x::l=>by
   rw[strip]
   have a6:=q2 l
   cases h:strip l with
   | nil=>simp only;split<;>simp
   | cons y r=>rw[h] at a6;simp only[List.length_cons] at*;omega
theorem My {l:List Int} (h:eU l):strip l=l:=ng (sS l) h (n3 l)
theorem uF {a l:List Int} (h:eU a) (e:a9 a=a9 l):strip l=a:=ng (sS l) h (by rw[n3,e])
end
section
open Ser Lean.Grind
attribute [local instance] Lean.Grind.Ring.intCast
section ev
variable {R:Type} [CommRing R]
def ev (y:R):List Int->R
 | []=>0
 | x::l=>(x:R)+y*ev y l
def av (x y:R):Nat->List Int->R
 | _,[]=>0
 | n,c::l=>(c:R)*y^n+x*av x y (n - 1) l
theorem Mz (a b:Int):((a*b:Int):R)=(a:R)*(b:R):=Ring.intCast_mul a b
theorem X4:((1:Int):R)=1:=Ring.intCast_one
theorem Es (a:Int):∀n:Nat,((a^n:Int):R)=(a:R)^n
 | 0=>by rw[Int.pow_zero,X4,Semiring.pow_zero]
 | n+1=>by rw[Int.pow_succ,Mz,Es a n,Semiring.pow_succ]
theorem MA (y:R) (c:Int):∀a,ev y (a.map fun x=>c*x)=(c:R)*ev y a
 | []=>by simp only[List.map_nil,ev];grind
 | x::a=>by simp only[List.map_cons,ev,MA y c a,Mz];grind
theorem MB (y:R) (n:Nat):∀m,y^(n+m)=y^n*y^m
 | 0=>by rw[Nat.add_zero,Semiring.pow_zero,Semiring.mul_one]
 | m+1=>by rw[<-Nat.add_assoc,Semiring.pow_succ,MB y n m,Semiring.pow_succ];grind
end ev
theorem Et:∀l,a9 l=ev X l
 | []=>nf
 | x::l=>by rw[sR,Et l,ev];rfl
theorem X5 (c:Int) (a:List Int):a9 (a.map fun x=>c*x)=C c*a9 a:=by rw[Et,Et,MA];rfl
def eb (a b:List Int):List Int:=strip ((List.range (max a.length b.length)).map fun i=>a.getD i 0+b.getD i 0)
def h3 (a b:List Int):List Int:=strip ((List.range (max a.length b.length)).map fun i=>a.getD i 0 - b.getD i 0)
def b8 (a b:List Int):List Int:=strip ((List.range (a.length+b.length - 1)).map fun i=>conv i (a9 a).c (a9 b).c)
def dU (a:List Int) (c:Int):List Int:=strip (a.map fun x=>x*c)
theorem Eu (n:Nat) (f:Nat->Int) (i:Nat):((List.range n).map f).getD i 0=if i<n then f i else 0:=by
 simp only[List.getD_eq_getElem?_getD,List.getElem?_map]
 by_cases h:i<n
 · simp[h]
 · simp[h]
theorem nh {l:List Int} {i:Nat} (h:l.length<=i):l.getD i 0=0:=by simp[List.getD_eq_getElem?_getD,h]
theorem zK {n:Nat} {f:Nat->Int} {s:Ser} (U:∀i,i<n->s.c i=f i) (h2:∀i,n<=i->s.c i=0):a9 ((List.range n).map f)=s:=by
 ext i
 rw[kb,Eu]
 split
 · exact (U i ‹_›).symm
 · exact (h2 i (by omega)).symm
theorem n4 (a b:List Int):a9 (eb a b)=a9 a+a9 b:=by
 rw[eb,n3]
 refine zK (fun i _=>rfl) fun i h=>?_
 rw[q1,kb,kb,nh (by omega),nh (by omega)];rfl
theorem q3 (a b:List Int):a9 (h3 a b)=a9 a - a9 b:=by
 rw[h3,n3]
 refine zK (fun i _=>rfl) fun i h=>?_
 rw[zH,kb,kb,nh (by omega),nh (by omega)];rfl
theorem Ev {f g:Nat->Int}:∀n,(∀i,i<=n->f i=0\/g (n - i)=0)->conv n f g=0
 | 0,h=>by rcases h 0 (Nat.le_refl _) with h|h<;>simp_all[conv]
 | n+1,h=>by
   rw[conv]
   have a6:=Ev (f:=fun i=>f (i+1)) (g:=g) n fun i ab=>by
    have:=h (i+1) (by omega)
    rwa [show n+1 -(i+1)=n - i by omega] at this
   rw[a6]
   rcases h 0 (by omega) with h|h
   · rw[h];simp
   · rw[Nat.sub_zero] at h;rw[h];simp
theorem X6 {a b:List Int} {i:Nat} (h:a.length+b.length<=i+1):conv i (a9 a).c (a9 b).c=0:=Ev i fun k ag=>by
 by_cases wX:a.length<=k
 · exact .inl (nh wX)
 · exact .inr (nh (by omega))
theorem k1 (a b:List Int):a9 (b8 a b)=a9 a*a9 b:=by
 rw[b8,n3]
 exact zK (fun i _=>rfl) fun i h=>X6 (by omega)
theorem sT (a:List Int) (c:Int):a9 (dU a c)=C c*a9 a:=by
 rw[dU,n3,<-X5]
 congr 2;funext x;exact Int.mul_comm ..
theorem sU (a b:List Int):eU (eb a b):=sS _
theorem sV (a b:List Int):eU (h3 a b):=sS _
theorem q4 (a b:List Int):eU (b8 a b):=sS _
theorem MC {f g:Nat->Int}:∀n m,(∀i,n<i->f i=0)->(∀i,m<i->g i=0)->conv (n+m) f g=f n*g m
 | 0,m,bg,aW=>by
   rw[Nat.zero_add]
   cases m with
   | zero=>rfl
   | succ m=>rw[conv,Ev m fun i _=> .inl (bg _ (by omega))];simp
 | n+1,m,bg,aW=>by
   rw[show n+1+m=n+m+1 by omega,conv,aW (n+m+1) (by omega),MC (f:=fun i=>f (i+1)) n m (fun i ab=>bg _ (by omega)) aW]
   simp
def lead (a:List Int):Int:=a.getD (a.length - 1) 0
theorem MD {a:List Int} (h:eU a) (h2:a≠ []):lead a≠0:=h.resolve_left h2
theorem X7 {a b:List Int} (aK:a≠ []) (aa:b≠ []):conv (a.length+b.length - 2) (a9 a).c (a9 b).c=lead a*lead b:=by
 have U:=List.length_pos_iff.2 aK
 have h2:=List.length_pos_iff.2 aa
 rw[show a.length+b.length - 2=(a.length - 1)+(b.length - 1) by omega]
 exact MC _ _ (fun i ab=>nh (by omega)) fun i ab=>nh (by omega)
theorem X8 {l:List Int} (h:l.getD (l.length - 1) 0≠0):eU l:= .inr h
theorem X9 {a b:List Int} (aK:eU a) (aa:eU b) (ef:a≠ []) (du:b≠ []):b8 a b=(List.range (a.length+b.length - 1)).map fun i=>conv i (a9 a).c (a9 b).c:=by
 have U:=List.length_pos_iff.2 ef
 have h2:=List.length_pos_iff.2 du
 refine My (X8 ?_)
 rw[List.length_map,List.length_range,Eu,if_pos (by omega),show a.length+b.length - 1 - 1=a.length+b.length - 2 by omega,X7 ef du]
 exact Int.mul_ne_zero (MD aK ef) (MD aa du)
theorem X_ {a b:List Int} (aK:eU a) (aa:eU b) (ef:a≠ []) (du:b≠ []):(b8 a b).length=a.length+b.length - 1:=by
 rw[X9 aK aa ef du];simp
theorem X' (b:List Int):b8 [] b= []:=ng (q4 _ _) (.inl rfl) (by rw[k1,nf];grind)
theorem Ya (b:List Int):b8 b []= []:=ng (q4 _ _) (.inl rfl) (by rw[k1,nf];grind)
def D (f:Ser):Ser:=⟨fun i=>f.c (i+1)*((i:Int)+1)⟩
end
end Go.Proofs.YtemiagcencajeaaGreatDoor
