/- What the claim needs of the walks, put together by a program (shake.py). -/
import Derived.Test.YtemiagcencajeaaGreatDoorCqG
set_option maxRecDepth 100000
set_option linter.unusedSimpArgs false
set_option linter.unusedVariables false
set_option linter.unusedSectionVars false
namespace Go.Proofs.YtemiagcencajeaaGreatDoor
section
set_option maxHeartbeats 8000000
open Go Go.Eng Go.RowKit
def p4:List Nat->dk->dk
 | 0::p,.seq a _=>p4 p a
 | _::p,.seq _ b=>p4 p b
 | 0::p,.cond _ a _=>p4 p a
 | _::p,.cond _ _ b=>p4 p b
 | _::p,.block _ c=>p4 p c
 | _::p,.loop c=>p4 p c
 | _,c=>c
def zL:dk:=p4 [1,1,1,1,1,1,1,1,0,1,0,0] i205.body
end
section
set_option maxHeartbeats 8000000
open Go Go.Eng Go.RowKit
theorem Own.later {h g h':af} {v:J} {o:List Nat} (x:Own h g v o) (k:Kept g h'):Own h h' v o:=⟨x.kept.trans k,x.val.imp id fun⟨r,U,h2,V⟩=>⟨r,U,h2,V.kept k⟩⟩
theorem Own.outs {h h':af} {v:J} {o:List Nat} (x:Own h h' v o):∃ids e,∀b9 m p,dE ⟨h'.cells,b9,m,p⟩ v=some (cg o e,ids)/\iu ⟨h'.cells,b9,m,p⟩ v=some (cg o e,ids)/\jl ⟨h'.cells,b9,m,p⟩ v=some (cg o e,ids):=by
 rcases x.val with⟨rfl,rfl⟩|⟨r,rfl,_,V⟩
 · exact ⟨[],true,fun _ _ _=>⟨rfl,rfl,rfl⟩⟩
 · have e:∀b9 m p,dE ⟨h'.cells,b9,m,p⟩ (.ref r 0 o.length o.length)=some (cg o false,[r]):=fun b9 m p=>by
    rw[fJ]
    simp only[V.cells,Nat.zero_add,pW,Nat.le_refl,zh,and_self,if_true,List.drop_zero]
    rw[List.take_of_length_le (by rw[pW];exact Nat.le_refl _)]
    rfl
   exact ⟨[r],false,fun b9 m p=>⟨e b9 m p,e b9 m p,e b9 m p⟩⟩
end
section
set_option maxHeartbeats 8000000
open Go Go.Eng Go.RowKit
theorem Mr {a b q r:Int} (aa:b≠0) (h:r+b*q=a) (aQ:0<=r) (U:r<b.natAbs):a/b=q/\a%b=r:=by
 rcases Int.lt_or_gt_of_ne aa with bF|XA
 · obtain⟨c,rfl⟩:∃c,b= -c:=⟨-b,by omega⟩
   have:=(Int.ediv_emod_unique (a:=a) (b:=c) (r:=r) (q:= -q) (by omega)).2 ⟨by grind,aQ,by omega⟩
   rw[Int.ediv_neg,Int.emod_neg]
   omega
 · exact (Int.ediv_emod_unique XA).2 ⟨h,aQ,by omega⟩
theorem Ms (a b:Int) (aa:b≠0) (ay:bn a=false\/a.natAbs%b.natAbs=0):
 cC (bn a != bn b) (a.natAbs/b.natAbs)=a/b/\cC false (a.natAbs%b.natAbs)=a%b:=by
 have aV:=q9 a
 have qW:=q9 b
 have bk:=Nat.div_add_mod a.natAbs b.natAbs
 have hm:=Nat.mod_lt a.natAbs (show 0<b.natAbs by omega)
 generalize iD:b.natAbs=n at*
 generalize a.natAbs=m at*
 generalize m/n=q at*
 generalize m%n=r at*
 generalize bn a=s at*
 generalize bn b=t at*
 have tU:(n:Int)*q+r=m:=by exact_mod_cast bk
 have:=Mr (a:=a) (b:=b) (q:=cC (s != t) q) (r:=r) aa (by
  subst aV qW
  rcases ay with rfl|rfl
  · cases t<;>simp[cC]<;>grind
  · cases s<;>cases t<;>simp[cC]<;>grind) (by omega) (by omega)
 exact ⟨this.1.symm,by rw[this.2];simp[cC]⟩
theorem Mt (a b:Int) (aa:b≠0) (eC:bn a=true) (aU:a.natAbs%b.natAbs≠0):
 cC (bn a != bn b) (a.natAbs/b.natAbs+1)=a/b/\cC false (b.natAbs - a.natAbs%b.natAbs)=a%b:=by
 have aV:=q9 a
 have qW:=q9 b
 have bk:=Nat.div_add_mod a.natAbs b.natAbs
 have hm:=Nat.mod_lt a.natAbs (show 0<b.natAbs by omega)
 generalize iD:b.natAbs=n at*
 generalize a.natAbs=m at*
 generalize m/n=q at*
 generalize m%n=r at*
 rw[eC] at aV|-
 generalize bn b=t at*
 have tU:(n:Int)*q+r=m:=by exact_mod_cast bk
 have:=Mr (a:=a) (b:=b) (q:=cC (true != t) (q+1)) (r:=((n - r:Nat):Int)) aa (by
  subst aV qW
  rw[Int.ofNat_sub (by omega)]
  cases t<;>simp[cC]<;>grind) (by omega) (by omega)
 exact ⟨this.1.symm,by rw[this.2];simp[cC]⟩
end
section
set_option maxHeartbeats 8000000
open Go Go.Eng Go.RowKit
attribute [local simp] a_.m a_.o a_.n a_.g e6 ez c2 cE c4 evalOp.eq_1 evalOp.eq_2 evalOp.eq_3 evalOp.eq_4 evalOp.eq_5 evalOp.eq_6 evalOp.eq_7 evalOp.eq_8 evalOp.eq_9 evalOp.eq_10 evalOp.eq_11 evalOp.eq_12 evalOp.eq_13 evalOp.eq_14 evalOp.eq_15 evalOp.eq_16 evalOp.eq_17 evalOp.eq_18 evalOp.eq_19 evalOp.eq_20 evalOp.eq_21 evalOp.eq_22 evalOp.eq_23 evalOp.eq_24 evalOp.eq_25 evalOp.eq_27 evalOp.eq_28 evalOp.eq_29 ie a6.ev cD aw af.new dW J.cells J.ch J.dO J.dJ gk gm gl gn gq gp hA hB hC ft fu cut partOf bound elems hE hF hG hH hI hJ hK hL hM hN hO hP fJ hQ hR hS hT hU hV hW hX hY hZ h0 h1 h3 h4 h5 h6 h7 h8 h9 h_ ia ib ic ey eh d_ e1 gr fS af.close af.set fU ig ih ij hD fT fR fy ee fH ga fh fI gb gd gf eY eZ e0 eW gu bP f_ gv f' gw gx eQ gy eR gz gA gB fl hz gC gD gE gF gG gH gI gJ gK gL gM gN gO gP gQ gR gS gT gU fx gV gW gX gY gZ g0 g1 g2 g3 g4 g5 g6 g7 g8 g9
attribute [local simp high] hv hx hy g_ g' ha hb hc hd hf hg hh hi hj hk hl hn ho hp hq hr hs ht
attribute [local simp] aQ List.getElem?_cons_zero List.getElem?_cons_succ dC cA fg Nat.mod_eq_of_lt iE iF iG iH fm iI iJ iK
section
attribute [local irreducible] br
attribute [local simp] di db cB zo zp zq zr zt zu wS wT
theorem XB {m n Y bJ r q i ss g:Nat} {s:aW} {cm fL:List Nat} {aN:af} (lQ:2<=n) (lp:m+n<=10000001) (pX:i<m) (p5:(ad Y).length=n) (mM:cm.length=m+n) (fD:fL.length=m)
 (f10:s.F 10=a4 ss) (f11:s.F 11= .ref bJ 0 n n) (f12:s.F 12= .ref r 0 (m+n) (m+n)) (f13:s.F 13=a4 n) (f14:s.F 14= .ref q 0 m m) (f15:s.F 15=a4 i)
 (kA:s.h.cells r=some (bm cm)) (n':s.h.cells bJ=some (bm (ad Y))) (o0:s.h.shut r=false) (p6:r<s.h.next) (zM:bJ<s.h.next)
 (o1:uK [bx (aP cm (i+n)),bx (aP cm (i+n - 1)),bx (aP cm (i+n - 2)),bx (aP (ad Y) (n - 1)),bx (aP (ad Y) (n - 2))]=some (fo g)) (ba:g<4294967296)
 (a9:eP G (aR Tryz.prog) jR [] (.fn 262) [.ref r i (n+1) (m+n - i),.ref bJ 0 n n,fo g] ⟨s.h.cells,s.h.shut,s.h.next+2+32+10,s.h.a7⟩=some (.bool false,aN))
 (zN:aN.cells q=some (bm fL)) (Ef:aN.shut q=false):
 br G (aR Tryz.prog) jR [] zL s (fun ex aj=>ex= .normal/\aj.F 15= .int .i64 (eJ i)/\∃eL,aN.next<=eL/\aj.h=⟨aw aN.cells q (some (bm (fL.set i g))),aN.shut,eL,aN.a7⟩):=by
 have b3:IntKind.i64.wrap (Z i+Z n)=Z (i+n):=dC (by omega)
 have cF:IntKind.i64.wrap (Z (i+n) - Z 1)=Z (i+n - 1):=cA (by omega) (by omega)
 have e5:IntKind.i64.wrap (Z (i+n) - Z 2)=Z (i+n - 2):=cA (by omega) (by omega)
 have oc:IntKind.i64.wrap (Z n - Z 1)=Z (n - 1):=cA (by omega) (by omega)
 have o2:IntKind.i64.wrap (Z n - Z 2)=Z (n - 2):=cA (by omega) (by omega)
 have lU:IntKind.i64.wrap (Z (i+n)+Z 1)=Z (i+n+1):=dC (by omega)
 have nz:IntKind.i64.wrap (Z i - Z 1)=eJ i:=kG (by omega)
 have Eg:=kf (show i+n<cm.length by omega)
 have Eh:=kf (show i+n - 1<cm.length by omega)
 have Ei:=kf (show i+n - 2<cm.length by omega)
 have Ej:=kf (show n - 1<(ad Y).length by omega)
 have Ek:=kf (show n - 2<(ad Y).length by omega)
 have El:=kf (show i<fL.length by omega)
 have Em:=kI (show 0<cm.length by omega)
 have p2:=kI (show 0<(ad Y).length by omega)
 have zO:=kI (show 0<fL.length by omega)
 have w9:r<s.h.next+2:=by omega
 have En:bJ<s.h.next+2:=by omega
 have bk:i+n+1 - i=n+1:=by omega
 have lo:i<=i+n+1:=by omega
 have Eo:i+n+1<=m+n:=by omega
 generalize aP cm (i+n)=x2 at*
 generalize aP cm (i+n - 1)=x1 at*
 generalize aP cm (i+n - 2)=x0 at*
 generalize aP (ad Y) (n - 1)=y1 at*
 generalize aP (ad Y) (n - 2)=y0 at*
 have st:=oW fL i g
 have Ep:g%4294967296=g:=Nat.mod_eq_of_lt (by omega)
 unfold zL
 simp only[p4,i205]
 have K:=en f10 f11 f12 f13 f14 f15;clear f10 f11 f12 f13 f14 f15
 refine bU [10,11,12,13,14,15,16,76,119] fun F k=>?_;clear K
 obtain⟨f10,f11,f12,f13,f14,f15,f16,f76,f119⟩:=k
 have H:=yz b3 cF e5 oc o2 lU nz Eg Eh Ei Ej Ek o1 kA n' Em p2 o0 w9 En bk lo Eo a9 zN zO Ef El st pX Ep fD
 have K:=ik f10 f11 f12 f13 f14 f15 f16 f76 f119;clear f10 f11 f12 f13 f14 f15 f16 f76 f119
 repeat' (first|refine ak ?_|refine al ?_|((first|refine b4 ?_|refine b5 ?_|refine b6 ?_|exact ao|refine an ?_);try(refine ar [10,11,12,13,14,15,16,76,119] fun F k=>?_;replace K:=k;clear k))|(refine aq (fun I=>?_) (fun I=>?_)<;>first|(exfalso;simp(disch:=omega) [H] at I;done)|(exfalso;simp at I;omega)|simp at I)|exact aB|refine aA ?_|exact aD|refine aC ?_|exact trivial)
 all_goals obtain⟨f10,f11,f12,f13,f14,f15,f16,f76,f119⟩:=K
end
section
attribute [local irreducible] br
attribute [local simp] di db cB zo zp zq zr zt zu wS wT
theorem XC {m n Y bJ r q i ss g:Nat} {s:aW} {cm fL:List Nat} {aN a8:af} (lQ:2<=n) (lp:m+n<=10000001) (pX:i<m) (p5:(ad Y).length=n) (mM:cm.length=m+n) (fD:fL.length=m)
 (f10:s.F 10=a4 ss) (f11:s.F 11= .ref bJ 0 n n) (f12:s.F 12= .ref r 0 (m+n) (m+n)) (f13:s.F 13=a4 n) (f14:s.F 14= .ref q 0 m m) (f15:s.F 15=a4 i)
 (kA:s.h.cells r=some (bm cm)) (n':s.h.cells bJ=some (bm (ad Y))) (o0:s.h.shut r=false) (p6:r<s.h.next) (zM:bJ<s.h.next)
 (o1:uK [bx (aP cm (i+n)),bx (aP cm (i+n - 1)),bx (aP cm (i+n - 2)),bx (aP (ad Y) (n - 1)),bx (aP (ad Y) (n - 2))]=some (fo (g+1))) (ba:g+1<4294967296)
 (a9:eP G (aR Tryz.prog) jR [] (.fn 262) [.ref r i (n+1) (m+n - i),.ref bJ 0 n n,fo (g+1)] ⟨s.h.cells,s.h.shut,s.h.next+2+32+10,s.h.a7⟩=some (.bool true,aN))
 (Mu:r<aN.next) (aeL:bJ<aN.next) {nJ:List Nat} (XD:nJ.length=m+n) (XE:aN.cells r=some (bm nJ)) (XF:aN.shut r=false)
 (bX:eP G (aR Tryz.prog) jR [] (.fn 263) [.ref r i (n+1) (m+n - i),.ref bJ 0 n n] ⟨aN.cells,aN.shut,aN.next+3+9,aN.a7⟩=some (.bD [],a8))
 (Er:a8.cells q=some (bm fL)) (Es:a8.shut q=false):
 br G (aR Tryz.prog) jR [] zL s (fun ex aj=>ex= .normal/\aj.F 15= .int .i64 (eJ i)/\∃eL,a8.next<=eL/\aj.h=⟨aw a8.cells q (some (bm (fL.set i g))),a8.shut,eL,a8.a7⟩):=by
 have b3:IntKind.i64.wrap (Z i+Z n)=Z (i+n):=dC (by omega)
 have cF:IntKind.i64.wrap (Z (i+n) - Z 1)=Z (i+n - 1):=cA (by omega) (by omega)
 have e5:IntKind.i64.wrap (Z (i+n) - Z 2)=Z (i+n - 2):=cA (by omega) (by omega)
 have oc:IntKind.i64.wrap (Z n - Z 1)=Z (n - 1):=cA (by omega) (by omega)
 have o2:IntKind.i64.wrap (Z n - Z 2)=Z (n - 2):=cA (by omega) (by omega)
 have lU:IntKind.i64.wrap (Z (i+n)+Z 1)=Z (i+n+1):=dC (by omega)
 have nz:IntKind.i64.wrap (Z i - Z 1)=eJ i:=kG (by omega)
 have Eg:=kf (show i+n<cm.length by omega)
 have Eh:=kf (show i+n - 1<cm.length by omega)
 have Ei:=kf (show i+n - 2<cm.length by omega)
 have Ej:=kf (show n - 1<(ad Y).length by omega)
 have Ek:=kf (show n - 2<(ad Y).length by omega)
 have El:=kf (show i<fL.length by omega)
 have Em:=kI (show 0<cm.length by omega)
 have p2:=kI (show 0<(ad Y).length by omega)
 have zO:=kI (show 0<fL.length by omega)
 have w9:r<s.h.next+2:=by omega
 have En:bJ<s.h.next+2:=by omega
 have bk:i+n+1 - i=n+1:=by omega
 have lo:i<=i+n+1:=by omega
 have Eo:i+n+1<=m+n:=by omega
 generalize aP cm (i+n)=x2 at*
 generalize aP cm (i+n - 1)=x1 at*
 generalize aP cm (i+n - 2)=x0 at*
 generalize aP (ad Y) (n - 1)=y1 at*
 generalize aP (ad Y) (n - 2)=y0 at*
 have st:=oW fL i g
 have Ep:g%4294967296=g:=Nat.mod_eq_of_lt (by omega)
 unfold zL
 simp only[p4,i205]
 have XG:r<aN.next+3:=by omega
 have XH:bJ<aN.next+3:=by omega
 have XI:=kI (show 0<nJ.length by omega)
 have XJ:(g+1+18446744073709551615)%18446744073709551616=g:=by omega
 have K:=en f10 f11 f12 f13 f14 f15;clear f10 f11 f12 f13 f14 f15
 refine bU [10,11,12,13,14,15,16,76,119] fun F k=>?_;clear K
 obtain⟨f10,f11,f12,f13,f14,f15,f16,f76,f119⟩:=k
 have H:=RX b3 cF e5 oc o2 lU nz Eg Eh Ei Ej Ek o1 kA n' Em p2 o0 w9 En bk lo Eo a9 bX XE XI XF XG XH Er zO Es El st pX Ep fD XJ
 have K:=ik f10 f11 f12 f13 f14 f15 f16 f76 f119;clear f10 f11 f12 f13 f14 f15 f16 f76 f119
 repeat' (first|refine ak ?_|refine al ?_|((first|refine b4 ?_|refine b5 ?_|refine b6 ?_|exact ao|refine an ?_);try(refine ar [10,11,12,13,14,15,16,76,119] fun F k=>?_;replace K:=k;clear k))|(refine aq (fun I=>?_) (fun I=>?_)<;>first|(exfalso;simp(disch:=omega) [H] at I;done)|(exfalso;simp at I;omega)|simp at I)|exact aB|refine aA ?_|exact aD|refine aC ?_|exact trivial)
 all_goals obtain⟨f10,f11,f12,f13,f14,f15,f16,f76,f119⟩:=K
end
section
attribute [local irreducible] br
attribute [local simp] di db cB zo zp zq zr zt zu wS wT
theorem XK:a3 Tryz.prog G 205 (bu (fun z:Nat × Nat=>((ad z.1).length<=10000000/\(ad z.2).length<=10000000)/\¬w_ z) (fun z=>[ai z.1,ai z.2]) (fun z=>if z.2=0 then .bD [.sl [] false,.sl [] false,a4 3] else .bD [ai (z.1/z.2),ai (z.1%z.2),a4 0])):=by
 refine bK mixed V' CJ fun z ay=>?_
 obtain⟨a,b⟩:=z
 obtain⟨⟨bQ,zP⟩,aT⟩:=ay
 simp only[w_,not_or,Nat.not_lt,Nat.not_le] at bQ zP aT|-
 obtain⟨c8,Mv,k6⟩:=aT
 rw[if_neg c8]
 unfold i205
 obtain⟨n,az⟩:∃n,(ad b).length=n:=⟨_,rfl⟩
 obtain⟨A,bg⟩:∃A,(ad a).length=A:=⟨_,rfl⟩
 rw[az] at k6 zP
 rw[bg] at bQ
 obtain⟨t,aY⟩:∃t,t=b/ah (n - 1):=⟨_,rfl⟩
 obtain⟨t9,Mw,uV,s_,p5⟩:=Xw (by omega) az aY
 have Mx:=VS t t9 (args:=[bx t]) (by simp)
 obtain⟨ss,aE⟩:∃ss,32 - dS t=ss:=⟨_,rfl⟩
 rw[aE] at Mw uV s_ p5 Mx
 have jQ:=(kp (show n - 1<(ad b).length by omega)).symm
 rw[iy,<-aY,Nat.mod_eq_of_lt t9] at jQ
 have eC:a≠0:=by omega
 have mI:=wC (a:=a) (b:=b) (e:=false) (e':=false) (by omega) (by omega)
 have mJ:(eg a b<Z 0)=False:=by
  simp only[eg,if_neg (Nat.not_lt.2 Mv),Z];split<;>simp
 generalize eg a b=y3 at*
 have p3:ad b≠ []:=fun h=>c8 (j4.1 h)
 have r7:n≠0:=by omega
 have w':n≠1:=by omega
 obtain⟨v1,U,au,Et⟩:=LC [] {cells:=fun _=>none,shut:=fun _=>false,next:=28} (fun _=>rfl) (a:=b) (n:=ss) (e:=false) c8 (by omega) (by omega)
 obtain⟨bJ,rfl,yT,Eu⟩:=Et.val.resolve_left fun h=>by have:=congrArg List.length h.1;simp only[List.length_nil] at this;omega
 rw[p5] at au
 obtain⟨v2,h2,ax,o3⟩:=LC [] {cells:=U.cells,shut:=U.shut,next:=U.next+4,a7:=U.a7} (fun j=>by show U.shut j=false;rw[Et.kept.shut]) (a:=a) (n:=ss) (e:=false) eC (by omega) (by omega)
 obtain⟨fk,l4⟩:∃fk,a*2^ss=fk:=⟨_,rfl⟩
 obtain⟨Y,mD⟩:∃Y,b*2^ss=Y:=⟨_,rfl⟩
 obtain⟨d1,d2,d3⟩:=Xx bg Mw l4 eC
 have aeM:=lM.2 eC
 rw[l4] at o3
 rw[mD] at Eu uV s_ p5
 obtain⟨dh,rfl,m2,ny⟩:=o3.val.resolve_left fun h=>by have:=congrArg List.length h.1;simp only[List.length_nil] at this;omega
 obtain⟨xa,XL⟩:∃xa,(ad fk).length=xa:=⟨_,rfl⟩
 rw[XL] at ax d1 d2
 have XM:fq h2 bJ (ad Y):=(Eu.bump (U.next+4) U.a7 (by omega)).kept o3.kept
 have bV:dh≠bJ:=by have:=Eu.dj;simp only at m2;omega
 refine aX [0,1,4,5,6,7,8,10,11,12,13,14,15,16,17,21,27,61,76,119] fun F K=>?_
 obtain⟨f0,f1,f4,f5,f6,f7,f8,f10,f11,f12,f13,f14,f15,f16,f17,f21,f27,f61,f76,f119⟩:=K
 have H:=kE au ax mI mJ p3 az bg r7 w' jQ Mx
 have K:=yy f0 f1 f4 f5 f6 f7 f8 f10 f11 f12 f13 f14 f15 f16 f17 f21 f27 f61 f76 f119;clear f0 f1 f4 f5 f6 f7 f8 f10 f11 f12 f13 f14 f15 f16 f17 f21 f27 f61 f76 f119
 repeat' (first|refine ak ?_|refine al ?_|((first|refine b4 ?_|refine b5 ?_|refine b6 ?_|exact ao|refine an ?_);try(refine ar [0,1,4,5,6,7,8,10,11,12,13,14,15,16,17,21,27,61,76,119] fun F k=>?_;replace K:=k;clear k))|(refine aq (fun I=>?_) (fun I=>?_)<;>first|(exfalso;simp(disch:=omega) [H] at I;done)|(exfalso;simp at I;omega)|simp at I)|exact aB|refine aA ?_|exact aD|refine aC ?_|exact trivial)
 all_goals obtain⟨f0,f1,f4,f5,f6,f7,f8,f10,f11,f12,f13,f14,f15,f16,f17,f21,f27,f61,f76,f119⟩:=K
 refine mZ (fun k s=>k<=1/\Mo (A+1 - k) fk Y bJ s) (Mo (A+1) fk Y bJ) (fun _=>False) (A+1 - xa) ?_ ?_ ?_ (fun _ _ h=>h.elim)
 · refine⟨by omega,fun j=>?_,XM.bump _ _ (by omega),dh,ad fk,?_,by omega,cB fk,dZ fk,bV,ny.bump _ _ (by omega)⟩
   · show h2.shut j=false;rw[o3.kept.shut];show U.shut j=false;rw[Et.kept.shut]
   · rw[show A+1 -(A+1 - xa)=xa by omega];exact f12
 · rintro k s ag ⟨vF,b8,W,r,cm,nv,mM,xb,xs,bV,V⟩
   replace f0:=(ag 0 rfl).trans f0;replace f1:=(ag 1 rfl).trans f1;replace f11:=(ag 11 rfl).trans f11
   clear f12
   have kA:=V.cells
   have o0:=b8 r
   cases k with
   | zero=>
     have f12:=nv
     have K:=b7 f0 f1 f11 f12;clear f0 f1 f11 f12
     refine bU [0,1,11,12,61] fun F k=>?_;clear K
     obtain⟨f0,f1,f11,f12,f61⟩:=k
     have H:=bg
     have K:=bH f0 f1 f11 f12 f61;clear f0 f1 f11 f12 f61
     repeat' (first|refine ak ?_|refine al ?_|((first|refine b4 ?_|refine b5 ?_|refine b6 ?_|exact ao|refine an ?_);try(refine ar [0,1,11,12,61] fun F k=>?_;replace K:=k;clear k))|(refine aq (fun I=>?_) (fun I=>?_)<;>first|(exfalso;simp(disch:=omega) [H] at I;done)|(exfalso;simp at I;omega)|simp at I)|exact aB|refine aA ?_|exact aD|refine aC ?_|exact trivial)
     all_goals obtain⟨f0,f1,f11,f12,f61⟩:=K
     exact ⟨b8,W.bump _ _ (by omega),r,cm,f12,mM,xb,xs,bV,V.bump _ _ (by omega)⟩
   | succ k=>
     obtain rfl:k=0:=by omega
     rw[show A+1 -(0+1)=A by omega] at nv mM
     have f12:=nv
     have ap:=fun q m p=>Xy (r:=q) (h:=⟨s.h.cells,s.h.shut,m,p⟩) (v:=0) (e:=true) o0 kA mM (by omega) (by omega)
     have K:=b7 f0 f1 f11 f12;clear f0 f1 f11 f12
     refine bU [0,1,11,12,61] fun F k=>?_;clear K
     obtain⟨f0,f1,f11,f12,f61⟩:=k
     have H:=bN bg ap
     have K:=bH f0 f1 f11 f12 f61;clear f0 f1 f11 f12 f61
     repeat' (first|refine ak ?_|refine al ?_|((first|refine b4 ?_|refine b5 ?_|refine b6 ?_|exact ao|refine an ?_);try(refine ar [0,1,11,12,61] fun F k=>?_;replace K:=k;clear k))|(refine aq (fun I=>?_) (fun I=>?_)<;>first|(exfalso;simp(disch:=omega) [H] at I;done)|(exfalso;simp at I;omega)|simp at I)|exact aB|refine aA ?_|exact aD|refine aC ?_|exact trivial)
     all_goals obtain⟨f0,f1,f11,f12,f61⟩:=K
     refine⟨b8,⟨?_,W.b9,by have:=W.dj;show bJ<s.h.next+5+2+2;omega⟩,s.h.next+5+2,cm++ [0],by simp[aw],by simp;omega,by rw[md];simp[val];exact xb,nW.2 ⟨xs,lz.2 ⟨by decide,Small.nil⟩⟩,by have:=W.dj;omega,⟨by simp[aw],b8 _,by show s.h.next+5+2<s.h.next+5+2+2;omega⟩⟩
     show aw (aw s.h.cells r none) (s.h.next+5+2) _ bJ=_
     have:=W.dj
     simp only[aw]
     rw[if_neg (by omega),if_neg (fun h=>bV h.symm)]
     exact W.cells
 · rintro s ag ⟨b8,W,r,cm,nv,mM,xb,xs,bV,V⟩
   replace f0:=(ag 0 rfl).trans f0;replace f1:=(ag 1 rfl).trans f1;replace f10:=(ag 10 rfl).trans f10;replace f11:=(ag 11 rfl).trans f11
   clear f12
   have aeN:n<=A:=by rw[<-az,<-bg];exact ir Mv
   obtain⟨m,hm⟩:∃m,A+1=m+n:=⟨A+1 - n,by omega⟩
   rw[hm] at nv mM
   have f12:=nv
   have hw:IntKind.i64.wrap (Z (m+n) - Z n)=Z m:=by rw[cA (by omega) (by omega)];rw[Nat.add_sub_cancel]
   have Lu:IntKind.i64.wrap (Z m - Z 1)=eJ m:=kG (by omega)
   have XN:Z m*4<=140737488355328:=by simp only[Z];omega
   have K:=bH f0 f1 f10 f11 f12;clear f0 f1 f10 f11 f12
   refine bU [10,11,12,13,14,15,76] fun F k=>?_;clear K
   obtain⟨f10,f11,f12,f13,f14,f15,f76⟩:=k
   have H:=b7 hw Lu XN (@zg)
   have K:=dN f10 f11 f12 f13 f14 f15 f76;clear f10 f11 f12 f13 f14 f15 f76
   repeat' (first|refine ak ?_|refine al ?_|((first|refine b4 ?_|refine b5 ?_|refine b6 ?_|exact ao|refine an ?_);try(refine ar [10,11,12,13,14,15,76] fun F k=>?_;replace K:=k;clear k))|(refine aq (fun I=>?_) (fun I=>?_)<;>first|(exfalso;simp(disch:=omega) [H] at I;done)|(exfalso;simp at I;omega)|simp at I)|exact aB|refine aA ?_|exact aD|refine aC ?_|exact trivial)
   all_goals obtain⟨f10,f11,f12,f13,f14,f15,f76⟩:=K
   obtain⟨q,aT⟩:∃q,q=s.h.next+3+4:=⟨_,rfl⟩
   rw[<-aT] at f14
   have ta:q≠r:=by have:=V.dj;omega
   have My:q≠bJ:=by have:=W.dj;omega
   have rq:0<Y:=by have:=jO n;omega
   refine mZ (fun k s=>k<=m/\Ml m n fk Y bJ r q k s/\s.F 15= .int .i64 (eJ k)) (Ml m n fk Y bJ r q 0) (fun _=>False) m ?_ ?_ ?_ (fun _ _ h=>h.elim)
   · have wn:=W.dj
     have aeO:=V.dj
     refine⟨Nat.le_refl _,⟨b8,?_,cm,List.replicate m 0,mM,by simp,xs,pO _,?_,?_,fun j _=>wy _ _,by rw[sy,Nat.zero_mul,Nat.zero_add];exact xb,?_⟩,f15⟩
     · refine⟨?_,W.b9,by show bJ<s.h.next+3+6+4;omega⟩
       show aw s.h.cells (s.h.next+3+4) _ bJ=_
       simp only[aw]
       rw[if_neg (by omega)]
       exact W.cells
     · refine⟨?_,V.b9,by show r<s.h.next+3+6+4;omega⟩
       show aw s.h.cells (s.h.next+3+4) _ r=_
       simp only[aw]
       rw[if_neg (by omega)]
       exact V.cells
     · refine⟨?_,b8 _,by show q<s.h.next+3+6+4;omega⟩
       show aw s.h.cells (s.h.next+3+4) _ q=_
       rw[aT]
       simp only[aw,if_true]
     · rw[xb]
       have e:ah m*ah n=ah A*4294967296:=by rw[<-iU,<-hm,et]
       have ax:=Nat.mul_le_mul_left (ah m) s_
       rw[e,Nat.mul_left_comm] at ax
       omega
   · rintro k s ag ⟨aeP,⟨b8,W,cm,fL,mM,fD,xs,xc,V,lr,xd,aF,bF⟩,Ev⟩
     replace f10:=(ag 10 rfl).trans f10;replace f11:=(ag 11 rfl).trans f11;replace f12:=(ag 12 rfl).trans f12;replace f13:=(ag 13 rfl).trans f13;replace f14:=(ag 14 rfl).trans f14
     clear f15
     have n':=W.cells
     have p2:=kI (show 0<(ad Y).length by omega)
     cases k with
     | zero=>
       have f15:=Ev
       have K:=en f10 f11 f12 f13 f14 f15;clear f10 f11 f12 f13 f14 f15
       refine bU [10,11,12,13,14,15,16,76,119] fun F k=>?_;clear K
       obtain⟨f10,f11,f12,f13,f14,f15,f16,f76,f119⟩:=k
       rw[nY] at f15
       have H:=(@re)
       have K:=ik f10 f11 f12 f13 f14 f15 f16 f76 f119;clear f10 f11 f12 f13 f14 f15 f16 f76 f119
       repeat' (first|refine ak ?_|refine al ?_|((first|refine b4 ?_|refine b5 ?_|refine b6 ?_|exact ao|refine an ?_);try(refine ar [10,11,12,13,14,15,16,76,119] fun F k=>?_;replace K:=k;clear k))|(refine aq (fun I=>?_) (fun I=>?_)<;>first|(exfalso;simp(disch:=omega) [H] at I;done)|(exfalso;simp at I;omega)|simp at I)|exact aB|refine aA ?_|exact aD|refine aC ?_|exact trivial)
       all_goals obtain⟨f10,f11,f12,f13,f14,f15,f16,f76,f119⟩:=K
       exact ⟨b8,W.bump _ _ (by omega),cm,fL,mM,fD,xs,xc,V.bump _ _ (by omega),lr.bump _ _ (by omega),xd,aF,bF⟩
     | succ i=>
       rw[nZ] at Ev
       have f15:=Ev
       have pX:i<m:=by omega
       obtain⟨oZ,D1,XO,XP,XQ,aeQ⟩:=Xz xs (by omega) uV s_ bF
       have ea:=xs.aP (i+n)
       have cp:=xs.aP (i+n - 1)
       have tX:=xs.aP (i+n - 2)
       have XR:=(dZ Y).aP (n - 1)
       have XS:=(dZ Y).aP (n - 2)
       have o1:=VU (aP cm (i+n),aP cm (i+n - 1),aP cm (i+n - 2),aP (ad Y) (n - 1),aP (ad Y) (n - 2)) ⟨D1,cp,tX,XR,XS,XO⟩ (args:=[bx (aP cm (i+n)),bx (aP cm (i+n - 1)),bx (aP cm (i+n - 2)),bx (aP (ad Y) (n - 1)),bx (aP (ad Y) (n - 2))]) (by simp)
       simp only at o1
       have aeR:=Lq (x2:=aP cm (i+n)) (x1:=aP cm (i+n - 1)) (x0:=aP cm (i+n - 2)) (y1:=aP (ad Y) (n - 1)) (y0:=aP (ad Y) (n - 2))
       generalize lR (aP cm (i+n)) (aP cm (i+n - 1)) (aP cm (i+n - 2)) (aP (ad Y) (n - 1)) (aP (ad Y) (n - 2))=g at*
       have kA:=V.cells
       have o0:=b8 r
       obtain⟨kJ,aN,a9,nJ,dc,rfl,XD,Ew,Mz,uR,XT,j6,k3⟩:=W8 [] ⟨s.h.cells,s.h.shut,s.h.next+2+32+10,s.h.a7⟩ (id:=r) (ry:=bJ) (off:=i) (n:=n) (cap:=m+n - i) (Yv:=Y) (g:=g) (V.bump _ _ (by omega)) (W.bump _ _ (by omega)) (Ne.symm bV) p5 (by omega) xs (by omega) (by omega) (by omega)
       have XU:val nJ<ah i*ah (n+1):=by
        rw[<-iU];exact zK Ew (fun j aO=>by rw[Mz j (.inr (by omega))];exact Mk xs oZ (by omega))
       have XV:val cm<ah i*ah (n+1):=by rw[<-iU];exact oZ
       obtain⟨XW,XX,MA,aeS⟩:=Xn (jO i) rq rfl XP XQ XT uR XU XV
       generalize val cm/ah i/Y=Q at*
       have dj:=lr.dj
       have p6:=V.dj
       have zM:=W.dj
       have zN:aN.cells q=some (bm fL):=by rw[k3.cells q (by show q<s.h.next+2+32+10;omega) ta];exact lr.cells
       have zO:=kI (show 0<fL.length by omega)
       have zQ:∀j,aN.shut j=false:=fun j=>by rw[k3.shut];exact b8 j
       have Ef:=zQ q
       have zR:∀v,val (fL.set i v)=val fL+ah i*v:=fun v=>by
        have:=m3 v (show i<fL.length by omega)
        rw[xd i (by omega),Nat.mul_zero,Nat.add_zero] at this;exact this
       have XY:=k3.next
       simp only at XY
       rcases (show dc=0\/dc=1 by omega) with rfl|rfl
       · obtain⟨rfl,ae⟩:=XW rfl
         obtain⟨Ex,Ey⟩:=Mp (zR g) aF ae MA
         have XZ:=k3.vec (W.bump (s.h.next+2+32+10) s.h.a7 (by omega)) (Ne.symm bV)
         have Ez:=k3.vec (lr.bump (s.h.next+2+32+10) s.h.a7 (by omega)) ta
         have EA:=XB (by omega) (by omega) pX p5 mM fD f10 f11 f12 f13 f14 f15 kA n' o0 p6 zM o1 (by omega) (a9.trans (by simp)) zN Ef
         refine EA.mono fun ex aj ⟨hex,EB,eL,sK,cS⟩=>?_
         subst hex
         show ∃j,_
         refine⟨i,Nat.lt_succ_self i,by omega,?_,EB⟩
         refine⟨?_,?_,nJ,fL.set i g,by omega,by rw[List.length_set];exact fD,Ew,m4 xc (by omega),?_,?_,fun j aO=>by rw[ns _ _ (by omega),if_neg (by omega)];exact xd j (by omega),Ex,Ey⟩
         · rw[cS];exact zQ
         · rw[cS];exact XZ.off (Ne.symm My) _ _ _ (by omega)
         · rw[cS];exact j6.off (Ne.symm ta) _ _ _ (by omega)
         · rw[cS];exact Ez.put _ _ _ (by omega)
       · obtain⟨rfl,ae⟩:=XX rfl
         have MB:=k3.vec (W.bump (s.h.next+2+32+10) s.h.a7 (by omega)) (Ne.symm bV)
         obtain⟨v4,a8,bX,vO,d4,rfl,aeT,MC,X0,X1,tb,nA⟩:=Xc [] ⟨aN.cells,aN.shut,aN.next+3+9,aN.a7⟩ (id:=r) (ry:=bJ) (off:=i) (n:=n) (cap:=m+n - i) (Yv:=Y) (j6.bump _ _ (by omega)) (MB.bump _ _ (by omega)) (Ne.symm bV) p5 (by omega) Ew (by omega) (by omega)
         have X2:val vO<ah i*ah (n+1):=by
          rw[<-iU];exact zK MC (fun j aO=>by rw[X0 j (.inr (by omega)),Mz j (.inr (by omega))];exact Mk xs oZ (by omega))
         have X3:=ae (val vO) d4 X1 X2
         have X4:=nA.next
         simp only at X4
         have Er:a8.cells q=some (bm fL):=by rw[nA.cells q (by show q<aN.next+3+9;omega) ta];exact zN
         have MD:∀j,a8.shut j=false:=fun j=>by rw[nA.shut];exact zQ j
         have Es:=MD q
         obtain⟨Ex,Ey⟩:=Mp (zR Q) aF X3 MA
         have X5:=nA.vec (MB.bump (aN.next+3+9) aN.a7 (by omega)) (Ne.symm bV)
         have Ez:=k3.vec (lr.bump (s.h.next+2+32+10) s.h.a7 (by omega)) ta
         have X6:=nA.vec (Ez.bump (aN.next+3+9) aN.a7 (by omega)) ta
         have EA:=XC (by omega) (by omega) pX p5 mM fD f10 f11 f12 f13 f14 f15 kA n' o0 p6 zM o1 (by omega) (a9.trans (by simp)) (by omega) (by omega) (show nJ.length=m+n by omega) j6.cells (zQ r) bX Er Es
         refine EA.mono fun ex aj ⟨hex,EB,eL,sK,cS⟩=>?_
         subst hex
         show ∃j,_
         refine⟨i,Nat.lt_succ_self i,by omega,?_,EB⟩
         refine⟨?_,?_,vO,fL.set i Q,by omega,by rw[List.length_set];exact fD,MC,m4 xc (by omega),?_,?_,fun j aO=>by rw[ns _ _ (by omega),if_neg (by omega)];exact xd j (by omega),Ex,Ey⟩
         · rw[cS];exact MD
         · rw[cS];exact X5.off (Ne.symm My) _ _ _ (by omega)
         · rw[cS];exact tb.off (Ne.symm ta) _ _ _ (by omega)
         · rw[cS];exact X6.put _ _ _ (by omega)
   · rintro s ag ⟨b8,W,cm,fL,mM,fD,xs,xc,V,lr,xd,aF,bF⟩
     replace f10:=(ag 10 rfl).trans f10;replace f11:=(ag 11 rfl).trans f11;replace f12:=(ag 12 rfl).trans f12;replace f13:=(ag 13 rfl).trans f13;replace f14:=(ag 14 rfl).trans f14
     clear f15
     rw[fA,Nat.one_mul] at bF
     obtain⟨ME,X7⟩:val fL=fk/Y/\val cm=fk%Y:=by
      have:fk/Y=val fL/\fk%Y=val cm:=(Nat.div_mod_unique rq).2 ⟨by rw[Nat.mul_comm];omega,bF⟩
      exact ⟨this.1.symm,this.2.symm⟩
     have MF:fk/Y=a/b:=by rw[<-l4,<-mD];exact Nat.mul_div_mul_right _ _ (Nat.pow_pos (by decide))
     have X8:fk%Y/2^ss=a%b:=by
      rw[<-l4,<-mD,Nat.mul_mod_mul_right];exact Nat.mul_div_cancel _ (Nat.pow_pos (by decide))
     have X9:val fL=a/b:=ME.trans MF
     clear ME MF
     obtain⟨pZ,cr,fc,EC⟩:=DT [] ⟨s.h.cells,s.h.shut,s.h.next+9,s.h.a7⟩ b8 (q:=q) (o:=fL) (lr.bump _ _ (by omega)) xc (by omega) (by omega)
     obtain⟨v6,eF,k7,ED⟩:=DT [] cr (fun j=>by rw[EC.kept.shut];exact b8 j) (q:=r) (o:=cm) ((V.bump (s.h.next+9) s.h.a7 (by omega)).kept EC.kept) xs (by omega) (by omega)
     have MG:=EC.later ED.kept
     rw[X9] at MG
     rw[X7] at ED
     obtain⟨aeU,aeV,X_⟩:=MG.outs
     obtain⟨aeW,X',MH⟩:=ED.outs
     have Ya:=MH eF.shut eF.next eF.a7
     have Yb:(ad (fk%Y)).length<=100000000:=by
      have:=ir (Nat.le_of_lt (Nat.mod_lt fk rq))
      omega
     have MI:=K1 (fk%Y,ss) ⟨Yb,by simp only;omega⟩ (args:=[cg (ad (fk%Y)) X',a4 ss]) (by simp)
     simp only[X8] at MI
     have aeX:=f10
     rw[fD] at fc
     rw[mM] at k7
     generalize fk%Y=aeY at*
     generalize a/b=aeZ at*
     generalize a%b=qI at*
     have K:=bI f10 f12 f14;clear f10 f12 f14
     refine bU [4,5,6,10,12,14] fun F k=>?_;clear K
     obtain⟨f4,f5,f6,f10,f12,f14⟩:=k
     have H:=en fc k7 MH Ya MI X_
     have K:=en f4 f5 f6 f10 f12 f14;clear f4 f5 f6 f10 f12 f14
     repeat' (first|refine ak ?_|refine al ?_|((first|refine b4 ?_|refine b5 ?_|refine b6 ?_|exact ao|refine an ?_);try(refine ar [4,5,6,10,12,14] fun F k=>?_;replace K:=k;clear k))|(refine aq (fun I=>?_) (fun I=>?_)<;>first|(exfalso;simp(disch:=omega) [H] at I;done)|(exfalso;simp at I;omega)|simp at I)|exact aB|refine aA ?_|exact aD|refine aC ?_|exact trivial)
     all_goals obtain⟨f4,f5,f6,f10,f12,f14⟩:=K
end
end
section
open Go Go.Eng Go.RowKit
theorem Yc:a3 Tryz.prog G 205 zJ:=
 Xi (fun z w h=>by
  simp only[List.cons.injEq,cI,and_true] at h
  rw[h.1,h.2]) w_ Xu XK
end
section
set_option maxHeartbeats 8000000
open Go Go.Eng Go.RowKit
attribute [local simp] a_.m a_.o a_.n a_.g e6 ez c2 cE c4 evalOp.eq_1 evalOp.eq_2 evalOp.eq_3 evalOp.eq_4 evalOp.eq_5 evalOp.eq_6 evalOp.eq_7 evalOp.eq_8 evalOp.eq_9 evalOp.eq_10 evalOp.eq_11 evalOp.eq_12 evalOp.eq_13 evalOp.eq_14 evalOp.eq_15 evalOp.eq_16 evalOp.eq_17 evalOp.eq_18 evalOp.eq_19 evalOp.eq_20 evalOp.eq_21 evalOp.eq_22 evalOp.eq_23 evalOp.eq_24 evalOp.eq_25 evalOp.eq_27 evalOp.eq_28 evalOp.eq_29 ie a6.ev cD aw af.new dW J.cells J.ch J.dO J.dJ gk gm gl gn gq gp hA hB hC ft fu cut partOf bound elems hE hF hG hH hI hJ hK hL hM hN hO hP fJ hQ hR hS hT hU hV hW hX hY hZ h0 h1 h3 h4 h5 h6 h7 h8 h9 h_ ia ib ic ey eh d_ e1 gr fS af.close af.set fU ig ih ij hD fT fR fy ee fH ga fh fI gb gd gf eY eZ e0 eW gu bP f_ gv f' gw gx eQ gy eR gz gA gB fl hz gC gD gE gF gG gH gI gJ gK gL gM gN gO gP gQ gR gS gT gU fx gV gW gX gY gZ g0 g1 g2 g3 g4 g5 g6 g7 g8 g9
attribute [local simp high] hv hx hy g_ g' ha hb hc hd hf hg hh hi hj hk hl hn ho hp hq hr hs ht
attribute [local simp] aQ List.getElem?_cons_zero List.getElem?_cons_succ dC cA fg Nat.mod_eq_of_lt iE iF iG iH fm iI iJ iK
section
attribute [local irreducible] br
attribute [local simp] di db cB
noncomputable def Yd:FuncId->Option (List J->Option J):=cT []
theorem Ye:∀f T,Yd f=some T->a3 Tryz.prog G f T:=cX (by simp)
theorem MJ:ai 1= .sl [.int .u32 (Z 1)] false:=by simp only[ai,nX];rfl
noncomputable def zS:List J->Option J:=bu (fun z:Unit=>True) (fun z=>[]) (fun z=>ai 1)
theorem Yf (z:Unit) (h:True) {args:List J} (he:args.map J.loose= []):zS args=some (ai 1):=bM (fun z w h=>by simp only[List.cons.injEq,J.int.injEq,J.bool.injEq,J.sl.injEq,cI,cH,cU,cV,cP,bY,cf,cO,bP,true_and,and_true] at h;simp[h]) z h he
theorem Yg:a3 Tryz.prog G 175 zS:=by
 refine bK mixed Ye Jf fun z ay=>?_
 rw[MJ]
 unfold i175
 refine aX [0] fun F K=>?_
 have f0:=K;clear K
 have H:=trivial
 have K:=f0;clear f0
 repeat' (first|refine ak ?_|refine al ?_|((first|refine aI ?_|refine aJ ?_|refine aK ?_|exact ao|refine an ?_);try(refine ar [0] fun F k=>?_;replace K:=k;clear k))|(refine aq (fun I=>?_) (fun I=>?_)<;>first|(exfalso;simp(disch:=omega) [H] at I;done)|(exfalso;simp at I;omega)|simp at I)|exact aB|refine aA ?_|exact aD|refine aC ?_|exact trivial)
 all_goals (have f0:=K;clear K)
noncomputable def uW:FuncId->Option (List J->Option J):=cT [(205,zJ),(174,jP),(185,oT),(84,n5),(175,zS)]
theorem Yh:∀f T,uW f=some T->a3 Tryz.prog G f T:=cX (by simp only[List.forall_mem_cons];exact ⟨Yc,uv,y2,zb,Yg,fun _ h=>absurd h (by simp)⟩)
theorem Yi:uW 205=some zJ:=rfl
theorem Yj:uW 174=some jP:=rfl
theorem Yk:uW 185=some oT:=rfl
theorem Yl:uW 84=some n5:=rfl
theorem Ym:uW 175=some zS:=rfl
attribute [local simp] Yi Yj Yk Yl Ym
noncomputable def zT:List J->Option J:=bu (fun z:Int × Int=>a' z.1<=1000000/\a' z.2<=1000000) (fun z=>[aH z.1,aH z.2]) (fun z=>if z.2=0 then .bD [aH 0,aH 0,a4 3] else .bD [aH (z.1/z.2),aH (z.1%z.2),a4 0])
theorem Yn (z:Int × Int) (h:a' z.1<=1000000/\a' z.2<=1000000) {args:List J} (he:args.map J.loose= [aH z.1,aH z.2]):zT args=some (if z.2=0 then .bD [aH 0,aH 0,a4 3] else .bD [aH (z.1/z.2),aH (z.1%z.2),a4 0]):=bM (fun z w h=>by simp only[List.cons.injEq,J.int.injEq,J.bool.injEq,J.sl.injEq,cI,cH,cU,cV,cP,bY,cf,cO,bP,true_and,and_true] at h;simp[h]) z h he
theorem Yo:a3 Tryz.prog G 183 zT:=by
 refine bK mixed Yh Jl fun z ay=>?_
 obtain⟨a,b⟩:=z
 obtain⟨aV,aa⟩:=ay
 simp only[a'] at aV aa|-
 have eM:=Xt (a.natAbs,b.natAbs) ⟨by simp only;omega,by simp only;omega⟩ (args:=[ai a.natAbs,ai b.natAbs]) (by simp)
 simp only at eM
 unfold i183
 by_cases c8:b=0
 · rw[if_pos c8]
   subst c8
   rw[if_pos (show (0:Int).natAbs=0 from rfl)] at eM
   have eu:ad 0= []:=e_
   have eb:bn 0=false:=rfl
   simp only[ai,cg,Int.natAbs_zero,eu,List.map_nil] at eM
   refine aX [0,1,2,3,4,5,6,7,8,9,20,30] fun F K=>?_
   obtain⟨f0,f1,f2,f3,f4,f5,f6,f7,f8,f9,f20,f30⟩:=K
   have H:=bI eM eu eb
   have K:=j2 f0 f1 f2 f3 f4 f5 f6 f7 f8 f9 f20 f30;clear f0 f1 f2 f3 f4 f5 f6 f7 f8 f9 f20 f30
   repeat' (first|refine ak ?_|refine al ?_|((first|refine aI ?_|refine aJ ?_|refine aK ?_|exact ao|refine an ?_);try(refine ar [0,1,2,3,4,5,6,7,8,9,20,30] fun F k=>?_;replace K:=k;clear k))|(refine aq (fun I=>?_) (fun I=>?_)<;>first|(exfalso;simp(disch:=omega) [H] at I;done)|(exfalso;simp at I;omega)|simp at I)|((first|refine ca ?_|refine dq ?_);simp(disch:=omega) [H,K,eu,eb])|exact trivial)
   all_goals obtain⟨f0,f1,f2,f3,f4,f5,f6,f7,f8,f9,f20,f30⟩:=K
 · rw[if_neg c8]
   rw[if_neg (by omega)] at eM
   have aT:=ir (Nat.div_le_self a.natAbs b.natAbs)
   have aU:=ir (Nat.mod_le a.natAbs b.natAbs)
   by_cases ay:bn a=false\/a.natAbs%b.natAbs=0
   · obtain⟨d1,d2⟩:=Ms a b c8 ay
     have t1:=m7 (b:=bn a != bn b) (n:=a.natAbs/b.natAbs) (by omega)
     have t2:=m7 (b:=false) (n:=a.natAbs%b.natAbs) (by omega)
     rw[d1] at t1
     rw[d2] at t2
     clear d1 d2
     generalize a/b=Q at*
     generalize a%b=R at*
     generalize a.natAbs/b.natAbs=q at*
     generalize a.natAbs%b.natAbs=r at*
     cases bg:bn a<;>cases bt:bn b<;>rw[bg,bt] at t1<;>simp only[bne,beq_self_eq_true,Bool.not_true,Bool.not_false,show (false == true)=false from rfl,show (true == false)=false from rfl] at t1
     · skip
       refine aX [0,1,2,3,4,5,6,7,8,9,20,30] fun F K=>?_
       obtain⟨f0,f1,f2,f3,f4,f5,f6,f7,f8,f9,f20,f30⟩:=K
       have H:=bH bg bt eM t1 t2
       have K:=j2 f0 f1 f2 f3 f4 f5 f6 f7 f8 f9 f20 f30;clear f0 f1 f2 f3 f4 f5 f6 f7 f8 f9 f20 f30
       repeat' (first|refine ak ?_|refine al ?_|((first|refine aI ?_|refine aJ ?_|refine aK ?_|exact ao|refine an ?_);try(refine ar [0,1,2,3,4,5,6,7,8,9,20,30] fun F k=>?_;replace K:=k;clear k))|(refine aq (fun I=>?_) (fun I=>?_)<;>first|(exfalso;simp(disch:=omega) [H] at I;done)|(exfalso;simp at I;omega)|simp at I)|exact aB|refine aA ?_|exact aD|refine aC ?_|exact trivial)
       all_goals obtain⟨f0,f1,f2,f3,f4,f5,f6,f7,f8,f9,f20,f30⟩:=K
     · skip
       refine aX [0,1,2,3,4,5,6,7,8,9,20,30] fun F K=>?_
       obtain⟨f0,f1,f2,f3,f4,f5,f6,f7,f8,f9,f20,f30⟩:=K
       have H:=bH bg bt eM t1 t2
       have K:=j2 f0 f1 f2 f3 f4 f5 f6 f7 f8 f9 f20 f30;clear f0 f1 f2 f3 f4 f5 f6 f7 f8 f9 f20 f30
       repeat' (first|refine ak ?_|refine al ?_|((first|refine aI ?_|refine aJ ?_|refine aK ?_|exact ao|refine an ?_);try(refine ar [0,1,2,3,4,5,6,7,8,9,20,30] fun F k=>?_;replace K:=k;clear k))|(refine aq (fun I=>?_) (fun I=>?_)<;>first|(exfalso;simp(disch:=omega) [H] at I;done)|(exfalso;simp at I;omega)|simp at I)|exact aB|refine aA ?_|exact aD|refine aC ?_|exact trivial)
       all_goals obtain⟨f0,f1,f2,f3,f4,f5,f6,f7,f8,f9,f20,f30⟩:=K
     · have eu:ad r= []:=j4.2 (ay.resolve_left (by rw[bg];decide))
       simp only[ai,cg,eu,List.map_nil] at eM t2
       refine aX [0,1,2,3,4,5,6,7,8,9,20,30] fun F K=>?_
       obtain⟨f0,f1,f2,f3,f4,f5,f6,f7,f8,f9,f20,f30⟩:=K
       have H:=bH bg bt eM t1 t2
       have K:=j2 f0 f1 f2 f3 f4 f5 f6 f7 f8 f9 f20 f30;clear f0 f1 f2 f3 f4 f5 f6 f7 f8 f9 f20 f30
       repeat' (first|refine ak ?_|refine al ?_|((first|refine aI ?_|refine aJ ?_|refine aK ?_|exact ao|refine an ?_);try(refine ar [0,1,2,3,4,5,6,7,8,9,20,30] fun F k=>?_;replace K:=k;clear k))|(refine aq (fun I=>?_) (fun I=>?_)<;>first|(exfalso;simp(disch:=omega) [H] at I;done)|(exfalso;simp at I;omega)|simp at I)|exact aB|refine aA ?_|exact aD|refine aC ?_|exact trivial)
       all_goals obtain⟨f0,f1,f2,f3,f4,f5,f6,f7,f8,f9,f20,f30⟩:=K
     · have eu:ad r= []:=j4.2 (ay.resolve_left (by rw[bg];decide))
       simp only[ai,cg,eu,List.map_nil] at eM t2
       refine aX [0,1,2,3,4,5,6,7,8,9,20,30] fun F K=>?_
       obtain⟨f0,f1,f2,f3,f4,f5,f6,f7,f8,f9,f20,f30⟩:=K
       have H:=bH bg bt eM t1 t2
       have K:=j2 f0 f1 f2 f3 f4 f5 f6 f7 f8 f9 f20 f30;clear f0 f1 f2 f3 f4 f5 f6 f7 f8 f9 f20 f30
       repeat' (first|refine ak ?_|refine al ?_|((first|refine aI ?_|refine aJ ?_|refine aK ?_|exact ao|refine an ?_);try(refine ar [0,1,2,3,4,5,6,7,8,9,20,30] fun F k=>?_;replace K:=k;clear k))|(refine aq (fun I=>?_) (fun I=>?_)<;>first|(exfalso;simp(disch:=omega) [H] at I;done)|(exfalso;simp at I;omega)|simp at I)|exact aB|refine aA ?_|exact aD|refine aC ?_|exact trivial)
       all_goals obtain⟨f0,f1,f2,f3,f4,f5,f6,f7,f8,f9,f20,f30⟩:=K
   · have bg:bn a=true:=by cases h:bn a<;>simp[h] at ay|-
     have oI:a.natAbs%b.natAbs≠0:=fun h=>ay (.inr h)
     obtain⟨d1,d2⟩:=Mt a b c8 bg oI
     have tc:=m5 (a:=a.natAbs/b.natAbs) (b:=1) (e:=false) (e':=false) (by omega) (by rw[nX];decide)
     have eB:=wJ (a:=b.natAbs) (b:=a.natAbs%b.natAbs) (e:=false) (e':=false) (by omega) (by omega)
     have Yp:=Nat.mod_lt a.natAbs (show 0<b.natAbs by omega)
     rw[if_neg (by omega)] at eB
     have aG:=kq (a.natAbs/b.natAbs) 1
     have cp:(ad 1).length=1:=by rw[nX];rfl
     have jq:=ir (Nat.sub_le b.natAbs (a.natAbs%b.natAbs))
     have t1:=m7 (b:=bn a != bn b) (n:=a.natAbs/b.natAbs+1) (by omega)
     have t2:=m7 (b:=false) (n:=b.natAbs - a.natAbs%b.natAbs) (by omega)
     rw[d1] at t1
     rw[d2] at t2
     have MK:=Yf () trivial (args:=[]) rfl
     clear d1 d2
     have az:¬ad (a.natAbs%b.natAbs)= []:=fun h=>oI (j4.1 h)
     have lQ:0<(ad (a.natAbs%b.natAbs)).length:=lM.2 oI
     generalize a/b=Q at*
     generalize a%b=R at*
     generalize a.natAbs/b.natAbs=q at*
     generalize a.natAbs%b.natAbs=r at*
     rw[bg] at t1
     cases bt:bn b<;>rw[bt] at t1<;>simp only[bne,beq_self_eq_true,Bool.not_true,Bool.not_false,show (false == true)=false from rfl,show (true == false)=false from rfl] at t1
     · skip
       refine aX [0,1,2,3,4,5,6,7,8,9,20,30] fun F K=>?_
       obtain⟨f0,f1,f2,f3,f4,f5,f6,f7,f8,f9,f20,f30⟩:=K
       have H:=iT bg bt eM az lQ MK tc eB t1 t2
       have K:=j2 f0 f1 f2 f3 f4 f5 f6 f7 f8 f9 f20 f30;clear f0 f1 f2 f3 f4 f5 f6 f7 f8 f9 f20 f30
       repeat' (first|refine ak ?_|refine al ?_|((first|refine aI ?_|refine aJ ?_|refine aK ?_|exact ao|refine an ?_);try(refine ar [0,1,2,3,4,5,6,7,8,9,20,30] fun F k=>?_;replace K:=k;clear k))|(refine aq (fun I=>?_) (fun I=>?_)<;>first|(exfalso;simp(disch:=omega) [H] at I;done)|(exfalso;simp at I;omega)|simp at I)|exact aB|refine aA ?_|exact aD|refine aC ?_|exact trivial)
       all_goals obtain⟨f0,f1,f2,f3,f4,f5,f6,f7,f8,f9,f20,f30⟩:=K
     · skip
       refine aX [0,1,2,3,4,5,6,7,8,9,20,30] fun F K=>?_
       obtain⟨f0,f1,f2,f3,f4,f5,f6,f7,f8,f9,f20,f30⟩:=K
       have H:=iT bg bt eM az lQ MK tc eB t1 t2
       have K:=j2 f0 f1 f2 f3 f4 f5 f6 f7 f8 f9 f20 f30;clear f0 f1 f2 f3 f4 f5 f6 f7 f8 f9 f20 f30
       repeat' (first|refine ak ?_|refine al ?_|((first|refine aI ?_|refine aJ ?_|refine aK ?_|exact ao|refine an ?_);try(refine ar [0,1,2,3,4,5,6,7,8,9,20,30] fun F k=>?_;replace K:=k;clear k))|(refine aq (fun I=>?_) (fun I=>?_)<;>first|(exfalso;simp(disch:=omega) [H] at I;done)|(exfalso;simp at I;omega)|simp at I)|exact aB|refine aA ?_|exact aD|refine aC ?_|exact trivial)
       all_goals obtain⟨f0,f1,f2,f3,f4,f5,f6,f7,f8,f9,f20,f30⟩:=K
noncomputable def EE:FuncId->Option (List J->Option J):=cT [(183,zT),(87,q_)]
theorem Yq:∀f T,EE f=some T->a3 Tryz.prog G f T:=cX (by simp only[List.forall_mem_cons];exact ⟨Yo,Ds,fun _ h=>absurd h (by simp)⟩)
theorem Yr:EE 183=some zT:=rfl
theorem Ys:EE 87=some q_:=rfl
attribute [local simp] Yr Ys
theorem EF {z:Int} (h:z≠0):(gg z == Z 0)=false/\(gg z != Z 0)=true:=by
 simp only[gg,Z]
 rw[if_neg h]
 split<;>exact ⟨rfl,rfl⟩
noncomputable def zU:List J->Option J:=bu (fun z:Int × Int=>a' z.1<=1000000/\a' z.2<=1000000) (fun z=>[aH z.1,aH z.2]) (fun z=>if z.2=0\/z.1%z.2≠0 then .bD [aH 0,.bool false] else .bD [aH (z.1/z.2),.bool true])
theorem Yt (z:Int × Int) (h:a' z.1<=1000000/\a' z.2<=1000000) {args:List J} (he:args.map J.loose= [aH z.1,aH z.2]):zU args=some (if z.2=0\/z.1%z.2≠0 then .bD [aH 0,.bool false] else .bD [aH (z.1/z.2),.bool true]):=bM (fun z w h=>by simp only[List.cons.injEq,J.int.injEq,J.bool.injEq,J.sl.injEq,cI,cH,cU,cV,cP,bY,cf,cO,bP,true_and,and_true] at h;simp[h]) z h he
theorem Yu:a3 Tryz.prog G 115 zU:=by
 refine bK mixed Yq I0 fun z ay=>?_
 obtain⟨a,b⟩:=z
 have eM:=Yn (a,b) ay (args:=[aH a,aH b]) (by simp)
 have eB:=Dr (a%b) trivial (args:=[aH (a%b)]) (by simp)
 simp only at eM|-
 unfold i115
 have eu:ad 0= []:=e_
 have eb:bn 0=false:=rfl
 by_cases c8:b=0
 · rw[if_pos c8] at eM
   rw[if_pos (.inl c8)]
   simp only[aH,eu,eb,Int.natAbs_zero,ai,cg,List.map_nil] at eM
   refine aX [0,1,2,3,4,5,6,7,8,22] fun F K=>?_
   obtain⟨f0,f1,f2,f3,f4,f5,f6,f7,f8,f22⟩:=K
   have H:=eM
   have K:=iT f0 f1 f2 f3 f4 f5 f6 f7 f8 f22;clear f0 f1 f2 f3 f4 f5 f6 f7 f8 f22
   repeat' (first|refine ak ?_|refine al ?_|((first|refine aI ?_|refine aJ ?_|refine aK ?_|exact ao|refine an ?_);try(refine ar [0,1,2,3,4,5,6,7,8,22] fun F k=>?_;replace K:=k;clear k))|(refine aq (fun I=>?_) (fun I=>?_)<;>first|(exfalso;simp(disch:=omega) [H] at I;done)|(exfalso;simp at I;omega)|simp at I)|((first|refine ca ?_|refine dq ?_);simp(disch:=omega) [H,K,eu,eb])|exact trivial)
   all_goals obtain⟨f0,f1,f2,f3,f4,f5,f6,f7,f8,f22⟩:=K
 · rw[if_neg c8] at eM
   by_cases aU:a%b=0
   · rw[if_neg (by simp[c8,aU])]
     have lq:gg (a%b)=Z 0:=by rw[aU];rfl
     rw[lq] at eB
     clear aU lq
     generalize a/b=q at*
     generalize a%b=r at*
     refine aX [0,1,2,3,4,5,6,7,8,22] fun F K=>?_
     obtain⟨f0,f1,f2,f3,f4,f5,f6,f7,f8,f22⟩:=K
     have H:=bN eM eB
     have K:=iT f0 f1 f2 f3 f4 f5 f6 f7 f8 f22;clear f0 f1 f2 f3 f4 f5 f6 f7 f8 f22
     repeat' (first|refine ak ?_|refine al ?_|((first|refine aI ?_|refine aJ ?_|refine aK ?_|exact ao|refine an ?_);try(refine ar [0,1,2,3,4,5,6,7,8,22] fun F k=>?_;replace K:=k;clear k))|(refine aq (fun I=>?_) (fun I=>?_)<;>first|(exfalso;simp(disch:=omega) [H] at I;done)|(exfalso;simp at I;omega)|simp at I)|exact aB|refine aA ?_|exact aD|refine aC ?_|exact trivial)
     all_goals obtain⟨f0,f1,f2,f3,f4,f5,f6,f7,f8,f22⟩:=K
   · rw[if_pos (.inr aU)]
     obtain⟨s1,s2⟩:=EF aU
     generalize a/b=q at*
     generalize gg (a%b)=zV at*
     generalize a%b=r at*
     refine aX [0,1,2,3,4,5,6,7,8,22] fun F K=>?_
     obtain⟨f0,f1,f2,f3,f4,f5,f6,f7,f8,f22⟩:=K
     have H:=b7 eM eB s1 s2
     have K:=iT f0 f1 f2 f3 f4 f5 f6 f7 f8 f22;clear f0 f1 f2 f3 f4 f5 f6 f7 f8 f22
     repeat' (first|refine ak ?_|refine al ?_|((first|refine aI ?_|refine aJ ?_|refine aK ?_|exact ao|refine an ?_);try(refine ar [0,1,2,3,4,5,6,7,8,22] fun F k=>?_;replace K:=k;clear k))|(refine aq (fun I=>?_) (fun I=>?_)<;>first|(exfalso;simp(disch:=omega) [H] at I;done)|(exfalso;simp at I;omega)|simp at I)|((first|refine ca ?_|refine dq ?_);simp(disch:=omega) [H,K,eu,eb])|exact trivial)
     all_goals obtain⟨f0,f1,f2,f3,f4,f5,f6,f7,f8,f22⟩:=K
end
end
section
@[ext] structure Ser where
  c:Nat->Int
namespace Ser
def conv:Nat->(Nat->Int)->(Nat->Int)->Int
 | 0,f,g=>f 0*g 0
 | n+1,f,g=>f 0*g (n+1)+conv n (fun i=>f (i+1)) g
theorem EG:∀n f g h,conv n f (fun i=>g i+h i)=conv n f g+conv n f h
 | 0,f,g,h=>by simp only[conv];grind
 | n+1,f,g,h=>by simp only[conv];rw[EG n];grind
theorem ML:∀n f g,conv (n+1) f g=conv n f (fun i=>g (i+1))+f (n+1)*g 0
 | 0,f,g=>by simp only[conv]
 | n+1,f,g=>by
   rw[conv,ML n,conv];grind
theorem uX:∀n f g,conv n f g=conv n g f
 | 0,f,g=>by simp only[conv];grind
 | n+1,f,g=>by rw[conv,ML,uX n];grind
theorem MM (n f g h):conv n (fun i=>g i+h i) f=conv n g f+conv n h f:=by
 rw[uX,EG,uX n f g,uX n f h]
theorem MN:∀n c f g,conv n (fun i=>c*f i) g=c*conv n f g
 | 0,c,f,g=>by simp only[conv];grind
 | n+1,c,f,g=>by simp only[conv];rw[MN n c (fun i=>f (i+1))];grind
theorem MO:∀n f g h,conv n (fun k=>conv k f g) h=conv n f (fun k=>conv k g h)
 | 0,f,g,h=>by simp only[conv];grind
 | n+1,f,g,h=>by
   rw[conv]
   simp only[conv]
   rw[MM,MN,MO n]
   grind
theorem MP:∀n f,conv n f (fun _=>0)=0
 | 0,f=>by simp only[conv];grind
 | n+1,f=>by simp only[conv];rw[MP n];grind
def C (z:Int):Ser:=⟨fun i=>if i=0 then z else 0⟩
theorem MQ (n:Nat) (z:Int) (g:Nat->Int):conv n (C z).c g=z*g n:=by
 cases n with
 | zero=>simp[conv,C]
 | succ n=>
   rw[conv,uX]
   have:(fun i=>(C z).c (i+1))=fun _=>0:=by funext i;simp[C]
   rw[this,MP]
   simp[C]
instance:Add Ser:=⟨fun f g=>⟨fun i=>f.c i+g.c i⟩⟩
instance:Mul Ser:=⟨fun f g=>⟨fun i=>conv i f.c g.c⟩⟩
instance:Neg Ser:=⟨fun f=>⟨fun i=> -f.c i⟩⟩
instance:Sub Ser:=⟨fun f g=>⟨fun i=>f.c i - g.c i⟩⟩
instance:NatCast Ser:=⟨fun n=>C n⟩
instance:IntCast Ser:=⟨C⟩
instance (n:Nat):OfNat Ser n:=⟨C n⟩
def npow (f:Ser):Nat->Ser
 | 0=>C 1
 | n+1=>npow f n*f
instance:HPow Ser Nat Ser:=⟨npow⟩
instance:SMul Nat Ser:=⟨fun n f=>(C n)*f⟩
instance:SMul Int Ser:=⟨fun n f=>(C n)*f⟩
theorem rr (f g:Ser) (i:Nat):(f+g).c i=f.c i+g.c i:=rfl
theorem zW (f g:Ser) (i:Nat):(f - g).c i=f.c i - g.c i:=rfl
theorem MR (f:Ser) (i:Nat):(-f).c i= -f.c i:=rfl
theorem EH (f g:Ser) (i:Nat):(f*g).c i=conv i f.c g.c:=rfl
theorem p7 (z:Int) (i:Nat):(C z).c i=if i=0 then z else 0:=rfl
theorem od (z:Int) (f:Ser) (i:Nat):(C z*f).c i=z*f.c i:=MQ i z f.c
theorem Yw (a b:Int):C (a+b)=C a+C b:=by ext i;simp only[rr,p7];split<;>simp
theorem MS (a:Int):C (-a)= -C a:=by ext i;simp only[MR,p7];split<;>simp
theorem MT (a b:Int):C (a*b)=C a*C b:=by ext i;rw[od];simp only[p7];split<;>simp
theorem zX (f g:Ser):f*g=g*f:=by ext i;exact uX i f.c g.c
instance:Lean.Grind.CommRing Ser where
 nsmul:=inferInstance
 zsmul:=inferInstance
 add_zero a:=by ext i;show a.c i+(C 0).c i=a.c i;simp[p7]
 add_comm a b:=by ext i;simp only[rr];omega
 add_assoc a b c:=by ext i;simp only[rr];omega
 mul_assoc a b c:=by ext i;exact MO i a.c b.c c.c
 mul_one a:=by rw[zX];ext i;show (C 1*a).c i=a.c i;rw[od];simp
 left_distrib a b c:=by ext i;exact EG i a.c b.c c.c
 zero_mul a:=by ext i;show (C 0*a).c i=(C 0).c i;rw[od];simp[p7]
 pow_zero a:=rfl
 pow_succ a n:=rfl
 ofNat_succ n:=by show C ((n+1:Nat):Int)=C n+C 1;rw[<-Yw];rfl
 neg_add_cancel a:=by ext i;show -a.c i+a.c i=(C 0).c i;simp[p7];omega
 sub_eq_add_neg a b:=by ext i;show a.c i - b.c i=a.c i+ -b.c i;omega
 neg_zsmul n a:=by show C (-n)*a= -(C n*a);ext i;rw[MR,od,od,Int.neg_mul]
 intCast_neg n:=MS n
 mul_comm:=zX
 one_mul a:=by ext i;show (C 1*a).c i=a.c i;rw[od];simp
 right_distrib a b c:=by ext i;exact MM i c.c a.c b.c
 mul_zero a:=by rw[zX];ext i;show (C 0*a).c i=(C 0).c i;rw[od];simp[p7]
theorem Yx:C 0=0:=rfl
theorem MU:C 1=1:=rfl
theorem EI (i:Nat):(0:Ser).c i=0:=by show (if i=0 then (0:Int) else 0)=0;split<;>rfl
def mono (n:Nat) (z:Int):Ser:=⟨fun i=>if i=n then z else 0⟩
theorem td (n:Nat) (z:Int) (i:Nat):(mono n z).c i=if i=n then z else 0:=rfl
theorem MV (z:Int):mono 0 z=C z:=rfl
def X:Ser:=mono 1 1
theorem EJ (f:Ser) (i:Nat):(X*f).c i=if i=0 then 0 else f.c (i - 1):=by
 rw[EH]
 cases i with
 | zero=>simp[conv,X,td]
 | succ i=>
   have e:(fun i=>X.c (i+1))=(C 1).c:=by
    funext i
    by_cases h:i=0<;>simp[X,td,p7,h]
   rw[conv,e,MQ]
   simp[X,td]
theorem MW (n:Nat) (z:Int):X*mono n z=mono (n+1) z:=by
 ext i
 rw[EJ,td,td]
 cases i with
 | zero=>simp
 | succ i=>simp
theorem xe:∀(n:Nat) (z:Int),mono n z=C z*X^n
 | 0,z=>by rw[MV];grind
 | n+1,z=>by rw[<-MW,xe n z];grind
end Ser
open Ser
def bd (l:List Int):Ser:=⟨fun i=>l.getD i 0⟩
theorem ku (l:List Int) (i:Nat):(bd l).c i=l.getD i 0:=rfl
theorem k4:bd []=0:=by ext i;rw[EI];rfl
theorem te (x:Int) (l:List Int):bd (x::l)=C x+X*bd l:=by
 ext i
 rw[rr,EJ,p7,ku]
 cases i<;>simp[ku]
theorem MX:∀(a b:List Int),bd (a++b)=bd a+X^a.length*bd b
 | [],b=>by rw[k4,List.nil_append,List.length_nil];grind
 | x::a,b=>by rw[List.cons_append,te,MX a b,te,List.length_cons];grind
theorem EK {l:List Int} {i:Nat} (h:i<l.length) (v:Int):bd (l.set i v)=bd l+mono i (v - l.getD i 0):=by
 ext j
 rw[rr,td,ku,ku]
 by_cases e:i=j
 · subst e;simp[h];omega
 · simp[List.getElem?_set_ne e];rw[if_neg (by omega)];omega
theorem zY (l:List Int) (i:Nat):bd (l.take (i+1))=bd (l.take i)+mono i (l.getD i 0):=by
 ext j
 rw[rr,td,ku,ku]
 simp only[List.getD_eq_getElem?_getD,List.getElem?_take]
 by_cases h:j<i
 · rw[if_pos (by omega),if_pos h,if_neg (by omega)];omega
 · by_cases e:j=i
   · subst e;simp
   · rw[if_neg (by omega),if_neg h,if_neg e];rfl
theorem zZ (n:Nat):bd (List.replicate n 0)=0:=by
 ext i;rw[ku,EI];simp[List.getElem?_replicate];split<;>rfl
def dn (l:List Int):Prop:=l= []\/l.getD (l.length - 1) 0≠0
theorem lF {a b:List Int} (aV:dn a) (aa:dn b) (h:bd a=bd b):a=b:=by
 have I:∀i,a.getD i 0=b.getD i 0:=fun i=>congrArg (fun s=>s.c i) h
 have aux:∀ {a b:List Int},dn b->(∀i,a.getD i 0=b.getD i 0)->b.length<=a.length:=by
  intro a b aa I
  refine Nat.le_of_not_lt fun aG=>?_
  rcases aa with rfl|aa
  · simp at aG
  · apply aa;rw[<-I,List.getD_eq_getElem?_getD,List.getElem?_eq_none (by omega)];rfl
 have aG:a.length=b.length:=Nat.le_antisymm (aux aV fun i=>(I i).symm) (aux aa I)
 refine List.ext_getElem aG fun i U h2=>?_
 have:=I i
 simpa[List.getD_eq_getElem?_getD,U,h2] using this
def strip:List Int->List Int
 | []=>[]
 | x::l=>match strip l with
   | []=>if x=0 then [] else [x]
   | y::r=>x::y::r
theorem mN:∀l,bd (strip l)=bd l
 | []=>rfl
 | x::l=>by
   rw[te,<-mN l,strip]
   cases h:strip l with
   | nil=>
     simp only
     split
     · rename_i ae;rw[ae,k4,Yx];grind
     · rw[te]
   | cons y r=>simp only;rw[te x]
theorem oe:∀l,dn (strip l)
 | []=> .inl rfl
 | x::l=>by
   rw[strip]
   have bj:=oe l
   cases h:strip l with
   | nil=>
     simp only
     split
     · exact .inl rfl
     · exact .inr (by simpa)
   | cons y r=>
     rw[h] at bj
     right
     rcases bj with bj|bj
     · cases bj
     · simpa using bj
theorem p8:∀l,(strip l).length<=l.length
 | []=>Nat.le_refl _
 | x::l=>by
   rw[strip]
   have bj:=p8 l
   cases h:strip l with
   | nil=>simp only;split<;>simp
   | cons y r=>rw[h] at bj;simp only[List.length_cons] at*;omega
theorem EL {l:List Int} (h:dn l):strip l=l:=lF (oe l) h (mN l)
theorem tf {a l:List Int} (h:dn a) (e:bd a=bd l):strip l=a:=lF (oe l) h (by rw[mN,e])
theorem Yy {a b:List Int} (e:bd a=bd b):strip a=strip b:=lF (oe a) (oe b) (by rw[mN,mN,e])
end
section
open Ser Lean.Grind
attribute [local instance] Lean.Grind.Ring.intCast
section ev
variable {R:Type} [CommRing R]
def ev (y:R):List Int->R
 | []=>0
 | x::l=>(x:R)+y*ev y l
def aF (x y:R):Nat->List Int->R
 | _,[]=>0
 | n,c::l=>(c:R)*y^n+x*aF x y (n - 1) l
def p9:List Int->List Int->List Int
 | [],b=>b
 | a,[]=>a
 | x::a,y::b=>(x+y)::p9 a b
theorem Yz (a b:Int):((a+b:Int):R)=(a:R)+(b:R):=Ring.intCast_add a b
theorem MY (a b:Int):((a*b:Int):R)=(a:R)*(b:R):=Ring.intCast_mul a b
theorem YA:((1:Int):R)=1:=Ring.intCast_one
theorem EM (a:Int):∀n:Nat,((a^n:Int):R)=(a:R)^n
 | 0=>by rw[Int.pow_zero,YA,Semiring.pow_zero]
 | n+1=>by rw[Int.pow_succ,MY,EM a n,Semiring.pow_succ]
theorem MZ (y:R):∀a b,ev y (p9 a b)=ev y a+ev y b
 | [],b=>by simp only[p9,ev];grind
 | x::a,[]=>by simp only[p9,ev];grind
 | x::a,z::b=>by simp only[p9,ev,MZ y a b,Yz];grind
theorem M0 (y:R) (c:Int):∀a,ev y (a.map fun x=>c*x)=(c:R)*ev y a
 | []=>by simp only[List.map_nil,ev];grind
 | x::a=>by simp only[List.map_cons,ev,M0 y c a,MY];grind
theorem M1 (y:R) (n:Nat):∀m,y^(n+m)=y^n*y^m
 | 0=>by rw[Nat.add_zero,Semiring.pow_zero,Semiring.mul_one]
 | m+1=>by rw[<-Nat.add_assoc,Semiring.pow_succ,M1 y n m,Semiring.pow_succ];grind
end ev
theorem uY:∀l,bd l=ev X l
 | []=>k4
 | x::l=>by rw[te,uY l,ev];rfl
theorem EN (a b:List Int):bd (p9 a b)=bd a+bd b:=by rw[uY,uY,uY,MZ]
theorem YB (c:Int) (a:List Int):bd (a.map fun x=>c*x)=C c*bd a:=by rw[uY,uY,M0];rfl
def dI (a b:List Int):List Int:=strip ((List.range (max a.length b.length)).map fun i=>a.getD i 0+b.getD i 0)
def fE (a b:List Int):List Int:=strip ((List.range (max a.length b.length)).map fun i=>a.getD i 0 - b.getD i 0)
def b2 (a b:List Int):List Int:=strip ((List.range (a.length+b.length - 1)).map fun i=>conv i (bd a).c (bd b).c)
def dw (a:List Int) (c:Int):List Int:=strip (a.map fun x=>x*c)
theorem EO (n:Nat) (f:Nat->Int) (i:Nat):((List.range n).map f).getD i 0=if i<n then f i else 0:=by
 simp only[List.getD_eq_getElem?_getD,List.getElem?_map]
 by_cases h:i<n
 · simp[h]
 · simp[h]
theorem mO {l:List Int} {i:Nat} (h:l.length<=i):l.getD i 0=0:=by simp[List.getD_eq_getElem?_getD,h]
theorem z0 {n:Nat} {f:Nat->Int} {s:Ser} (U:∀i,i<n->s.c i=f i) (h2:∀i,n<=i->s.c i=0):bd ((List.range n).map f)=s:=by
 ext i
 rw[ku,EO]
 split
 · exact (U i ‹_›).symm
 · exact (h2 i (by omega)).symm
theorem mi (a b:List Int):bd (dI a b)=bd a+bd b:=by
 rw[dI,mN]
 refine z0 (fun i _=>rfl) fun i h=>?_
 rw[rr,ku,ku,mO (by omega),mO (by omega)];rfl
theorem o4 (a b:List Int):bd (fE a b)=bd a - bd b:=by
 rw[fE,mN]
 refine z0 (fun i _=>rfl) fun i h=>?_
 rw[zW,ku,ku,mO (by omega),mO (by omega)];rfl
theorem EP {f g:Nat->Int}:∀n,(∀i,i<=n->f i=0\/g (n - i)=0)->conv n f g=0
 | 0,h=>by rcases h 0 (Nat.le_refl _) with h|h<;>simp_all[conv]
 | n+1,h=>by
   rw[conv]
   have bj:=EP (f:=fun i=>f (i+1)) (g:=g) n fun i ab=>by
    have:=h (i+1) (by omega)
    rwa [show n+1 -(i+1)=n - i by omega] at this
   rw[bj]
   rcases h 0 (by omega) with h|h
   · rw[h];simp
   · rw[Nat.sub_zero] at h;rw[h];simp
theorem YC {a b:List Int} {i:Nat} (h:a.length+b.length<=i+1):conv i (bd a).c (bd b).c=0:=EP i fun k ag=>by
 by_cases xf:a.length<=k
 · exact .inl (mO xf)
 · exact .inr (mO (by omega))
theorem jB (a b:List Int):bd (b2 a b)=bd a*bd b:=by
 rw[b2,mN]
 exact z0 (fun i _=>rfl) fun i h=>YC (by omega)
theorem ru (a:List Int) (c:Int):bd (dw a c)=C c*bd a:=by
 rw[dw,mN,<-YB]
 congr 2;funext x;exact Int.mul_comm ..
theorem og (a b:List Int):dn (dI a b):=oe _
theorem p_ (a b:List Int):dn (fE a b):=oe _
theorem oh (a b:List Int):dn (b2 a b):=oe _
theorem YD (a:List Int) (c:Int):dn (dw a c):=oe _
theorem ER {f g:Nat->Int}:∀n m,(∀i,n<i->f i=0)->(∀i,m<i->g i=0)->conv (n+m) f g=f n*g m
 | 0,m,bw,ba=>by
   rw[Nat.zero_add]
   cases m with
   | zero=>rfl
   | succ m=>rw[conv,EP m fun i _=> .inl (bw _ (by omega))];simp
 | n+1,m,bw,ba=>by
   rw[show n+1+m=n+m+1 by omega,conv,ba (n+m+1) (by omega),ER (f:=fun i=>f (i+1)) n m (fun i ab=>bw _ (by omega)) ba]
   simp
def lead (a:List Int):Int:=a.getD (a.length - 1) 0
theorem ES {a:List Int} (h:dn a) (h2:a≠ []):lead a≠0:=h.resolve_left h2
theorem YE {a b:List Int} (aV:a≠ []) (aa:b≠ []):conv (a.length+b.length - 2) (bd a).c (bd b).c=lead a*lead b:=by
 have U:=List.length_pos_iff.2 aV
 have h2:=List.length_pos_iff.2 aa
 rw[show a.length+b.length - 2=(a.length - 1)+(b.length - 1) by omega]
 exact ER _ _ (fun i ab=>mO (by omega)) fun i ab=>mO (by omega)
theorem YF {l:List Int} (h:l.getD (l.length - 1) 0≠0):dn l:= .inr h
theorem YG {a b:List Int} (aV:dn a) (aa:dn b) (eC:a≠ []) (c8:b≠ []):b2 a b=(List.range (a.length+b.length - 1)).map fun i=>conv i (bd a).c (bd b).c:=by
 have U:=List.length_pos_iff.2 eC
 have h2:=List.length_pos_iff.2 c8
 refine EL (YF ?_)
 rw[List.length_map,List.length_range,EO,if_pos (by omega),show a.length+b.length - 1 - 1=a.length+b.length - 2 by omega,YE eC c8]
 exact Int.mul_ne_zero (ES aV eC) (ES aa c8)
theorem ET {a b:List Int} (aV:dn a) (aa:dn b) (eC:a≠ []) (c8:b≠ []):(b2 a b).length=a.length+b.length - 1:=by
 rw[YG aV aa eC c8];simp
theorem M3 (b:List Int):b2 [] b= []:=lF (oh _ _) (.inl rfl) (by rw[jB,k4];grind)
theorem YH (b:List Int):b2 b []= []:=lF (oh _ _) (.inl rfl) (by rw[jB,k4];grind)
theorem YI {a:List Int} (aV:dn a):bd a=0↔a= []:=by
 constructor
 · intro h;exact lF aV (.inl rfl) (by rw[h,k4])
 · rintro rfl;exact k4
def D (f:Ser):Ser:=⟨fun i=>f.c (i+1)*((i:Int)+1)⟩
end
section
open Ser Lean.Grind
attribute [local instance] Lean.Grind.Ring.intCast
def term (c:Int) (n:Nat):List Int:=strip (List.replicate n 0++ [c])
theorem rv (c:Int) (n:Nat):bd (term c n)=mono n c:=by
 rw[term,mN,MX,zZ,List.length_replicate,te,k4,xe];grind
def mP (b:List Int):Nat->List Int × List Int->List Int × List Int
 | 0,s=>s
 | k+1,(q,r)=>mP b k (dI (dw q (lead b)) (term (r.getD (k+(b.length - 1)) 0) k),fE (dw r (lead b)) (b2 (term (r.getD (k+(b.length - 1)) 0) k) b))
theorem z1 (n:Nat) (z:Int) (f:Ser) (i:Nat):(mono n z*f).c i=if i<n then 0 else z*f.c (i - n):=by
 induction n generalizing i with
 | zero=>rw[MV,od];simp
 | succ n bj=>
   rw[<-MW,show X*mono n z*f=X*(mono n z*f) by grind,EJ]
   cases i with
   | zero=>simp
   | succ i=>simp[bj]
theorem YJ {l:List Int} (h:dn l) {n:Nat} (az:∀i,n<=i->(bd l).c i=0):l.length<=n:=by
 refine Nat.le_of_not_lt fun aG=>?_
 rcases h with rfl|h
 · simp at aG
 · exact h (az _ (by omega))
theorem EU {l:List Int} {i:Nat} (h:l.length<=i):(bd l).c i=0:=mO h
theorem EV {b:List Int} (c8:b≠ []):∀(k:Nat) (q r:List Int),dn q->dn r->r.length<=k+(b.length - 1)->
 dn (mP b k (q,r)).1/\dn (mP b k (q,r)).2/\(mP b k (q,r)).2.length<=b.length - 1/\
 bd (mP b k (q,r)).1*bd b+bd (mP b k (q,r)).2=C (lead b^k)*(bd q*bd b+bd r)
 | 0,q,r,aT,aU,aG=>by
   refine⟨aT,aU,by simpa[mP] using aG,?_⟩
   show bd q*bd b+bd r=_
   rw[Int.pow_zero,MU];grind
 | k+1,q,r,aT,aU,aG=>by
   have U:=List.length_pos_iff.2 c8
   have e:bd (fE (dw r (lead b)) (b2 (term (r.getD (k+(b.length - 1)) 0) k) b))=C (lead b)*bd r - mono k (r.getD (k+(b.length - 1)) 0)*bd b:=by
    rw[o4,ru,jB,rv]
   have ax:bd (dI (dw q (lead b)) (term (r.getD (k+(b.length - 1)) 0) k))=C (lead b)*bd q+mono k (r.getD (k+(b.length - 1)) 0):=by
    rw[mi,ru,rv]
   have bj:=EV c8 k _ _ (og (dw q (lead b)) (term (r.getD (k+(b.length - 1)) 0) k)) (p_ (dw r (lead b)) (b2 (term (r.getD (k+(b.length - 1)) 0) k) b)) (YJ (p_ _ _) fun i ab=>by
    rw[e,zW,od,z1]
    by_cases lA:i=k+(b.length - 1)
    · subst lA
      rw[if_neg (by omega),show k+(b.length - 1) - k=b.length - 1 by omega]
      show lead b*(bd r).c _ - r.getD _ 0*(bd b).c _=0
      rw[ku,ku,lead,Int.mul_comm];omega
    · rw[EU (by omega),if_neg (by omega),EU (by omega)];simp)
   refine⟨bj.1,bj.2.1,bj.2.2.1,?_⟩
   show bd (mP b k _).1*bd b+bd (mP b k _).2=_
   rw[bj.2.2.2,e,ax,Int.pow_succ,MT]
   grind
def exact (a b:Int):Option Int:=if b≠0/\b∣a then some (a/b) else none
theorem YK {b:Int} (h:b≠0) (c:Int):exact (c*b) b=some c:=by
 rw[exact,if_pos ⟨h,Int.dvd_mul_left c b⟩,Int.mul_ediv_cancel _ h]
def mj (b:List Int):Nat->List Int × List Int->Option (List Int × List Int)
 | 0,s=>some s
 | k+1,(q,r)=>(exact (r.getD (k+(b.length - 1)) 0) (lead b)).bind fun c=>mj b k (dI q (term c k),fE r (b2 (term c k) b))
def fW (a b:List Int):Option (List Int):=
 if b= [] then none else (mj b (a.length+1 - b.length) ([],a)).bind fun(q,r)=>if r= [] then some q else none
theorem EW {b:List Int}:∀(k:Nat) (q r:List Int) (s:List Int × List Int),dn q->dn r->mj b k (q,r)=some s->dn s.1/\dn s.2/\bd s.1*bd b+bd s.2=bd q*bd b+bd r
 | 0,q,r,s,aT,aU,h=>by cases h;exact ⟨aT,aU,rfl⟩
 | k+1,q,r,s,aT,aU,h=>by
   rw[mj,Option.bind_eq_some_iff] at h
   obtain⟨c,I,h⟩:=h
   have bj:=EW k _ _ s (og _ _) (p_ _ _) h
   refine⟨bj.1,bj.2.1,?_⟩
   rw[bj.2.2,mi,o4,jB]
   grind
theorem YL {a b q:List Int} (aV:dn a) (h:fW a b=some q):b≠ []/\dn q/\bd q*bd b=bd a:=by
 rw[fW] at h
 split at h
 · cases h
 · rename_i aa
   rw[Option.bind_eq_some_iff] at h
   obtain⟨⟨l2,r⟩,U,h2⟩:=h
   have:=EW _ _ _ _ (.inl rfl) aV U
   simp only at h2
   split at h2
   · rename_i aU
     cases h2
     refine⟨aa,this.1,?_⟩
     have e:=this.2.2
     simp only[aU,k4] at e
     grind
   · cases h2
theorem M4 {b:List Int} (aa:dn b) (c8:b≠ []):∀(k:Nat) (q r c:List Int),dn q->dn r->dn c->c.length<=k->bd r=bd c*bd b->mj b k (q,r)=some (strip (p9 q c),[])
 | 0,q,r,c,aT,aU,I,aG,h=>by
   have:c= []:=List.length_eq_zero_iff.1 (by omega)
   subst this
   have oI:r= []:=(YI aU).1 (by rw[h,k4];grind)
   subst oI
   show some (q,[])=_
   rw[tf aT (by rw[EN,k4];grind)]
 | k+1,q,r,c,aT,aU,I,aG,h=>by
   have U:=List.length_pos_iff.2 c8
   have YM:=ES aa c8
   have e:r.getD (k+(b.length - 1)) 0=c.getD k 0*lead b:=by
    show (bd r).c _=_
    rw[h,EH]
    exact ER k (b.length - 1) (fun i ab=>mO (by omega)) fun i ab=>mO (by omega)
   rw[mj,e,YK YM]
   show mj b k _=_
   have je:bd c=bd (strip (c.take k))+mono k (c.getD k 0):=by
    rw[mN,<-zY,List.take_of_length_le (by omega)]
   rw[M4 aa c8 k _ _ (strip (c.take k)) (og _ _) (p_ _ _) (oe _) (Nat.le_trans (p8 _) (by rw[List.length_take];omega)) (by rw[o4,jB,rv,h,je];grind)]
   congr 2
   refine Yy ?_
   rw[EN,EN,mi,rv,je];grind
theorem YN {b c r:List Int} (aa:dn b) (c8:b≠ []) (aU:dn r) (I:dn c) (h:bd r=bd c*bd b):c.length<=r.length+1 - b.length:=by
 have U:=List.length_pos_iff.2 c8
 by_cases jf:c= []
 · subst jf;simp
 · have e:r=b2 c b:=lF aU (oh _ _) (by rw[jB,h])
   rw[e,ET I aa jf c8];omega
theorem M5 {a b c:List Int} (aV:dn a) (aa:dn b) (c8:b≠ []) (I:dn c) (h:bd a=bd c*bd b):fW a b=some c:=by
 rw[fW,if_neg c8,M4 aa c8 _ [] a c (.inl rfl) aV I (YN aa c8 aV I h) h]
 show (if ([]:List Int)= [] then some (strip (p9 [] c)) else none)=_
 rw[if_pos rfl,show p9 [] c=c from rfl,EL I]
end
section
open Ser Lean.Grind
def ml (q:Rat) (p:List Int):Rat:=ev q p
def xg (n d:Int) (p:List Int):Int:=aF n d (p.length - 1) p
theorem M6 (x y:Int):∀n p,((aF x y n p:Int):Rat)=aF (x:Rat) (y:Rat) n p
 | n,[]=>rfl
 | n,c::p=>by
   show ((c*y^n+x*aF x y (n - 1) p:Int):Rat)=(c:Rat)*(y:Rat)^n+(x:Rat)*aF (x:Rat) (y:Rat) (n - 1) p
   rw[Rat.intCast_add,Rat.intCast_mul,Rat.intCast_mul,M6 x y _ p]
   congr 2
   exact EM (R:=Rat) y n
theorem M7 {R:Type} [CommRing R] (x y q:R) (h:x=q*y):∀n p,p.length<=n+1->aF x y n p=y^n*ev q p
 | n,[],_=>by simp only[aF,ev];grind
 | 0,[z],_=>by simp only[aF,ev];grind
 | 0,z::w::a,h=>by simp at h
 | n+1,z::p,aG=>by
   rw[aF,Nat.add_sub_cancel,M7 x y q h n p (by simpa using aG),ev,h]
   grind
theorem YO (q:Rat):(q.den:Int)≠0:=by have:=q.den_pos;omega
theorem M8 (q:Rat):((q.den:Int):Rat)≠0:=by
 intro h;exact YO q (Rat.intCast_inj.1 (by rw[h];rfl))
theorem YP (q:Rat):((q.num:Int):Rat)=q*((q.den:Int):Rat):=by
 have h:=Rat.num_divInt_den q
 rw[Rat.divInt_eq_div] at h
 have:=M8 q
 generalize ((q.den:Int):Rat)=d at*
 generalize ((q.num:Int):Rat)=n at*
 subst h
 grind
theorem YQ (q:Rat) (p:List Int):((xg q.num q.den p:Int):Rat)=((q.den:Int):Rat)^(p.length - 1)*ml q p:=by
 rw[xg,M6,ml,M7 _ _ q (YP q) _ _ (by omega)]
theorem M9 {d:Rat} (h:d≠0):∀n:Nat,d^n≠0
 | 0=>by rw[Semiring.pow_zero];decide
 | n+1=>by
   have:=M9 h n
   rw[Semiring.pow_succ]
   grind
theorem YR (a:Int):∀n:Nat,((a^n:Int):Rat)=(a:Rat)^n:=EM (R:=Rat) a
theorem YS (q:Rat) (p:List Int):Rat.divInt (xg q.num q.den p) ((q.den:Int)^(p.length - 1))=ml q p:=by
 rw[Rat.divInt_eq_div,YQ,YR]
 have:=M9 (M8 q) (p.length - 1)
 generalize ((q.den:Int):Rat)^(p.length - 1)=d at*
 grind
end
section
set_option maxHeartbeats 8000000
open Go Go.Eng Go.RowKit
attribute [local simp] a_.m a_.o a_.n a_.g e6 ez c2 cE c4 evalOp.eq_1 evalOp.eq_2 evalOp.eq_3 evalOp.eq_4 evalOp.eq_5 evalOp.eq_6 evalOp.eq_7 evalOp.eq_8 evalOp.eq_9 evalOp.eq_10 evalOp.eq_11 evalOp.eq_12 evalOp.eq_13 evalOp.eq_14 evalOp.eq_15 evalOp.eq_16 evalOp.eq_17 evalOp.eq_18 evalOp.eq_19 evalOp.eq_20 evalOp.eq_21 evalOp.eq_22 evalOp.eq_23 evalOp.eq_24 evalOp.eq_25 evalOp.eq_27 evalOp.eq_28 evalOp.eq_29 ie a6.ev cD aw af.new dW J.cells J.ch J.dO J.dJ gk gm gl gn gq gp hA hB hC ft fu cut partOf bound elems hE hF hG hH hI hJ hK hL hM hN hO hP fJ hQ hR hS hT hU hV hW hX hY hZ h0 h1 h3 h4 h5 h6 h7 h8 h9 h_ ia ib ic ey eh d_ e1 gr fS af.close af.set fU ig ih ij hD fT fR fy ee fH ga fh fI gb gd gf eY eZ e0 eW gu bP f_ gv f' gw gx eQ gy eR gz gA gB fl hz gC gD gE gF gG gH gI gJ gK gL gM gN gO gP gQ gR gS gT gU fx gV gW gX gY gZ g0 g1 g2 g3 g4 g5 g6 g7 g8 g9
attribute [local simp high] hv hx hy g_ g' ha hb hc hd hf hg hh hi hj hk hl hn ho hp hq hr hs ht
attribute [local simp] aQ List.getElem?_cons_zero List.getElem?_cons_succ dC cA fg Nat.mod_eq_of_lt iE iF iG iH fm iI iJ iK
section
attribute [local irreducible] br
attribute [local simp] di db cB
noncomputable def M_:FuncId->Option (List J->Option J):=cT [(87,q_)]
theorem EX:∀f T,M_ f=some T->a3 Tryz.prog G f T:=cX (by simp only[List.forall_mem_cons];exact ⟨Ds,fun _ h=>absurd h (by simp)⟩)
theorem YT:M_ 87=some q_:=rfl
attribute [local simp] YT
theorem p' {l:List Int} {i:Nat} (h:i<l.length):(l.map fun z=>aH z)[i]? =some (aH (l.getD i 0)):=by
 simp[h,List.getD_eq_getElem?_getD]
noncomputable def z2:List J->Option J:=bu (fun z:List Int × Nat=>z.2<4611686018427387904/\z.1.length<=1000000) (fun z=>[aM z.1 false,a4 z.2]) (fun z=>aH (z.1.getD z.2 0))
theorem M' (z:List Int × Nat) (h:z.2<4611686018427387904/\z.1.length<=1000000) {args:List J} (he:args.map J.loose= [aM z.1 false,a4 z.2]):z2 args=some (aH (z.1.getD z.2 0)):=bM (fun z w h=>by simp only[List.cons.injEq,J.int.injEq,J.bool.injEq,J.sl.injEq,cI,cH,cU,cV,cP,bY,cf,cO,bP,true_and,and_true] at h;simp[h]) z h he
theorem YU:a3 Tryz.prog G 208 z2:=by
 refine bK mixed EX SH fun z ay=>?_
 obtain⟨l,i⟩:=z
 obtain⟨ab,aG⟩:=ay
 simp only at ab aG|-
 unfold i208
 by_cases h:i<l.length
 · have g:=p' h
   generalize l.getD i 0=c at*
   refine aX [0,1,4,8] fun F K=>?_
   obtain⟨f0,f1,f4,f8⟩:=K
   have H:=bN h g
   have K:=b7 f0 f1 f4 f8;clear f0 f1 f4 f8
   repeat' (first|refine ak ?_|refine al ?_|((first|refine aI ?_|refine aJ ?_|refine aK ?_|exact ao|refine an ?_);try(refine ar [0,1,4,8] fun F k=>?_;replace K:=k;clear k))|(refine aq (fun I=>?_) (fun I=>?_)<;>first|(exfalso;simp(disch:=omega) [H] at I;done)|(exfalso;simp at I;omega)|simp at I)|exact aB|refine aA ?_|exact aD|refine aC ?_|exact trivial)
   all_goals obtain⟨f0,f1,f4,f8⟩:=K
 · have e:l.getD i 0=0:=by simp[List.getD_eq_getElem?_getD,show l.length<=i by omega]
   rw[e]
   have eu:ad 0= []:=e_
   have eb:bn 0=false:=rfl
   refine aX [0,1,4,8] fun F K=>?_
   obtain⟨f0,f1,f4,f8⟩:=K
   have H:=h
   have K:=b7 f0 f1 f4 f8;clear f0 f1 f4 f8
   repeat' (first|refine ak ?_|refine al ?_|((first|refine aI ?_|refine aJ ?_|refine aK ?_|exact ao|refine an ?_);try(refine ar [0,1,4,8] fun F k=>?_;replace K:=k;clear k))|(refine aq (fun I=>?_) (fun I=>?_)<;>first|(exfalso;simp(disch:=omega) [H] at I;done)|(exfalso;simp at I;omega)|simp at I)|((first|refine ca ?_|refine dq ?_);simp(disch:=omega) [H,K,eu,eb])|exact trivial)
   all_goals obtain⟨f0,f1,f4,f8⟩:=K
theorem YV {n:Nat} (h:n<=1000000):IntKind.i64.wrap (Z n - Z 1)=(n:Int) - 1:=by rw[wrap_i64 (by simp only[Z];omega) (by simp only[Z];omega)];rfl
noncomputable def rz:List J->Option J:=bu (fun z:List Int=>z.length<=1000000) (fun z=>[aM z false]) (fun z=> .int .i64 ((z.length:Int) - 1))
theorem z3 (z:List Int) (h:z.length<=1000000) {args:List J} (he:args.map J.loose= [aM z false]):rz args=some (.int .i64 ((z.length:Int) - 1)):=bM (fun z w h=>by simp only[List.cons.injEq,J.int.injEq,J.bool.injEq,J.sl.injEq,cI,cH,cU,cV,cP,bY,cf,cO,bP,true_and,and_true] at h;simp[h]) z h he
theorem EY:a3 Tryz.prog G 62 rz:=by
 refine bK mixed EX II fun l aG=>?_
 have e:=YV aG
 unfold i62
 refine aX [0,2] fun F K=>?_
 obtain⟨f0,f2⟩:=K
 have H:=e
 have K:=bN f0 f2;clear f0 f2
 repeat' (first|refine ak ?_|refine al ?_|((first|refine aI ?_|refine aJ ?_|refine aK ?_|exact ao|refine an ?_);try(refine ar [0,2] fun F k=>?_;replace K:=k;clear k))|(refine aq (fun I=>?_) (fun I=>?_)<;>first|(exfalso;simp(disch:=omega) [H] at I;done)|(exfalso;simp at I;omega)|simp at I)|exact aB|refine aA ?_|exact aD|refine aC ?_|exact trivial)
 all_goals obtain⟨f0,f2⟩:=K
theorem YW {l:List Int} {m:Nat} (hm:m<=l.length) (ay:∀i,m<=i->l.getD i 0=0) (he:m=0\/l.getD (m - 1) 0≠0):l.take m=strip l:=by
 have aG:(l.take m).length=m:=by rw[List.length_take];omega
 have ba:∀i,(l.take m).getD i 0=l.getD i 0:=fun i=>by
  by_cases h:i<m
  · simp[List.getD_eq_getElem?_getD,h]
  · rw[ay i (by omega),List.getD_eq_getElem?_getD,List.getElem?_eq_none (by omega)];rfl
 refine(tf ?_ ?_).symm
 · rcases he with rfl|he
   · exact .inl (by simp)
   · right;rw[aG,ba];exact he
 · ext i;exact ba i
noncomputable def rA:List J->Option J:=bu (fun z:List Int=>z.length<=1000000) (fun z=>[aM z false]) (fun z=>aM (strip z) false)
theorem tg (z:List Int) (h:z.length<=1000000) {args:List J} (he:args.map J.loose= [aM z false]):rA args=some (aM (strip z) false):=bM (fun z w h=>by simp only[List.cons.injEq,J.int.injEq,J.bool.injEq,J.sl.injEq,cI,cH,cU,cV,cP,bY,cf,cO,bP,true_and,and_true] at h;simp[h]) z h he
theorem EZ:a3 Tryz.prog G 64 rA:=by
 refine bK mixed EX IJ fun l aG=>?_
 unfold i64
 refine aX [0,2,3,16] fun F K=>?_
 obtain⟨f0,f2,f3,f16⟩:=K
 have H:=trivial
 have K:=b7 f0 f2 f3 f16;clear f0 f2 f3 f16
 repeat' (first|refine ak ?_|refine al ?_|((first|refine aI ?_|refine aJ ?_|refine aK ?_|exact ao|refine an ?_);try(refine ar [0,2,3,16] fun F k=>?_;replace K:=k;clear k))|(refine aq (fun I=>?_) (fun I=>?_)<;>first|(exfalso;simp(disch:=omega) [H] at I;done)|(exfalso;simp at I;omega)|simp at I)|exact aB|refine aA ?_|exact aD|refine aC ?_|exact trivial)
 all_goals obtain⟨f0,f2,f3,f16⟩:=K
 refine mZ (fun m s=>m<=l.length/\(∀i,m<=i->l.getD i 0=0)/\s.F 3=a4 m) (fun s=>∃m,m<=l.length/\(∀i,m<=i->l.getD i 0=0)/\(m=0\/l.getD (m - 1) 0≠0)/\s.F 3=a4 m) (fun _=>False) l.length ?_ ?_ ?_ (fun _ _ h=>h.elim)
 · exact ⟨Nat.le_refl _,fun i ab=>by simp[List.getD_eq_getElem?_getD,ab],by first|rfl|exact f3⟩
 · rintro m s ag ⟨hm,ay,fG⟩
   replace f0:=(ag 0 rfl).trans f0
   clear f3
   have f3:=fG
   have K:=bN f0 f3;clear f0 f3
   refine bU [0,3,16] fun F k=>?_;clear K
   obtain⟨f0,f3,f16⟩:=k
   cases m with
   | zero=>
     have H:=trivial
     have K:=bI f0 f3 f16;clear f0 f3 f16
     repeat' (first|refine ak ?_|refine al ?_|((first|refine aI ?_|refine aJ ?_|refine aK ?_|exact ao|refine an ?_);try(refine ar [0,3,16] fun F k=>?_;replace K:=k;clear k))|(refine aq (fun I=>?_) (fun I=>?_)<;>first|(exfalso;simp(disch:=omega) [H] at I;done)|(exfalso;simp at I;omega)|simp at I)|exact aB|refine aA ?_|exact aD|refine aC ?_|exact trivial)
     all_goals obtain⟨f0,f3,f16⟩:=K
     exact ⟨0,by omega,ay,.inl rfl,by first|rfl|exact f3⟩
   | succ m=>
     have go:=p' (show m<l.length by omega)
     have hw:IntKind.i64.wrap (Z (m+1) - Z 1)=Z m:=by rw[cA (by omega) (by omega)];rfl
     have rn:0<m+1:=by omega
     have eB:=Dr (l.getD m 0) trivial (args:=[aH (l.getD m 0)]) (by simp)
     obtain⟨c,ni⟩:∃c,c=l.getD m 0:=⟨_,rfl⟩
     rw[<-ni] at go eB
     by_cases ae:c=0
     · have lq:gg c=Z 0:=by rw[ae];rfl
       rw[lq] at eB
       have H:=b7 go hw rn eB
       have K:=bI f0 f3 f16;clear f0 f3 f16
       repeat' (first|refine ak ?_|refine al ?_|((first|refine aI ?_|refine aJ ?_|refine aK ?_|exact ao|refine an ?_);try(refine ar [0,3,16] fun F k=>?_;replace K:=k;clear k))|(refine aq (fun I=>?_) (fun I=>?_)<;>first|(exfalso;simp(disch:=omega) [H] at I;done)|(exfalso;simp at I;omega)|simp at I)|exact aB|refine aA ?_|exact aD|refine aC ?_|exact trivial)
       all_goals obtain⟨f0,f3,f16⟩:=K
       refine⟨m,by omega,by omega,fun i ab=>?_,by first|rfl|exact f3⟩
       by_cases e:i=m
       · subst e;exact ni.symm.trans ae
       · exact ay i (by omega)
     · obtain⟨s1,s2⟩:=EF ae
       generalize gg c=zV at*
       have H:=en go hw rn eB s1 s2
       have K:=bI f0 f3 f16;clear f0 f3 f16
       repeat' (first|refine ak ?_|refine al ?_|((first|refine aI ?_|refine aJ ?_|refine aK ?_|exact ao|refine an ?_);try(refine ar [0,3,16] fun F k=>?_;replace K:=k;clear k))|(refine aq (fun I=>?_) (fun I=>?_)<;>first|(exfalso;simp(disch:=omega) [H] at I;done)|(exfalso;simp at I;omega)|simp at I)|exact aB|refine aA ?_|exact aD|refine aC ?_|exact trivial)
       all_goals obtain⟨f0,f3,f16⟩:=K
       exact ⟨m+1,hm,ay,.inr (by rw[Nat.add_sub_cancel];exact fun h=>ae (ni.trans h)),by first|rfl|exact f3⟩
 · rintro s ag ⟨m,hm,ay,jv,fG⟩
   replace f0:=(ag 0 rfl).trans f0
   clear f3
   have f3:=fG
   have aY:=YW hm ay jv
   have sE:List.take m (l.map fun z=>aH z)=(strip l).map fun z=>aH z:=by rw[<-List.map_take,aY]
   have K:=bN f0 f3;clear f0 f3
   refine bU [0,2,3] fun F k=>?_;clear K
   obtain⟨f0,f2,f3⟩:=k
   have H:=bN hm sE
   have K:=bI f0 f2 f3;clear f0 f2 f3
   repeat' (first|refine ak ?_|refine al ?_|((first|refine aI ?_|refine aJ ?_|refine aK ?_|exact ao|refine an ?_);try(refine ar [0,2,3] fun F k=>?_;replace K:=k;clear k))|(refine aq (fun I=>?_) (fun I=>?_)<;>first|(exfalso;simp(disch:=omega) [H] at I;done)|(exfalso;simp at I;omega)|simp at I)|exact aB|refine aA ?_|exact aD|refine aC ?_|exact trivial)
   all_goals obtain⟨f0,f2,f3⟩:=K
end
end
end Go.Proofs.YtemiagcencajeaaGreatDoor
