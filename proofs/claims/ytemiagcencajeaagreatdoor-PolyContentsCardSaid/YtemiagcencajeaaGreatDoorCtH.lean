/- What the claim needs of the walks, put together by a program (shake.py). -/
import Derived.Test.YtemiagcencajeaaGreatDoorCtG
set_option maxRecDepth 100000
set_option linter.unusedSimpArgs false
set_option linter.unusedVariables false
set_option linter.unusedSectionVars false
namespace Go.Proofs.YtemiagcencajeaaGreatDoor
section
set_option maxHeartbeats 8000000
open Go Go.Eng Go.RowKit
theorem HM {la V gx Q P K B x out y g vi c c' b hA p pl:Nat} (ab:gx+P*x=V+P*out) (h2:out+pl+b=x+B*hA) (aX:p=B*c'+pl) (aW:p=g*y+c) (cL:V+Q*(g*vi)=la+P*(c+b)) (fo:P=Q*K):
 gx+Q*(g*(vi+K*y))=la+P*B*(c'+hA):=by
 have e:P*(out+pl+b)=P*(x+B*hA):=by rw[h2]
 have aB:P*(B*c'+pl)=P*(g*y+c):=by rw[<-aX,aW]
 subst fo
 grind
theorem HN {la V gx Q P K B x out y vi c c':Nat} (ab:gx+P*x=V+P*out) (h2:x+y+c=B*c'+out) (cL:V+P*c=la+Q*vi) (fo:P=Q*K):
 gx+P*B*c'=la+Q*(vi+K*y):=by
 have e:P*(x+y+c)=P*(B*c'+out):=by rw[h2]
 subst fo
 grind
structure lE (id:Nat) (h av:aA):Prop where
 next:h.next<=av.next
 cells:∀j,j<h.next->j≠id->av.cells j=h.cells j
 shut:av.shut=h.shut
 bm:av.bm=h.bm
theorem lE.bump {id:Nat} {h g:aA} (K:lE id h g) (n:Nat) (ar:g.next<=n):lE id h ⟨g.cells,g.shut,n,g.bm⟩:=⟨Nat.le_trans K.next ar,K.cells,K.shut,K.bm⟩
theorem lE.put {id:Nat} {h g:aA} (K:lE id h g) (v:Option (List J)) (n:Nat) (ar:g.next<=n):lE id h ⟨aF g.cells id v,g.shut,n,g.bm⟩:=
 ⟨Nat.le_trans K.next ar,fun j aZ bP=>by simp only[aF,if_neg bP];exact K.cells j aZ bP,K.shut,K.bm⟩
theorem lE.refl (id:Nat) (h:aA):lE id h h:=⟨Nat.le_refl _,fun _ _ _=>rfl,rfl,rfl⟩
end
section
set_option maxHeartbeats 8000000
open Go Go.Eng Go.RowKit
def pd:List Nat->dw->dw
 | 0::p,.seq a _=>pd p a
 | _::p,.seq _ b=>pd p b
 | 0::p,.cond _ a _=>pd p a
 | _::p,.cond _ _ b=>pd p b
 | _::p,.block _ c=>pd p c
 | _::p,.loop c=>pd p c
 | _,c=>c
def xy:dw:=pd [1,1,1,1,1,1,1,1,0,1,0,0] i205.body
end
section
set_option maxHeartbeats 8000000
open Go Go.Eng Go.RowKit
theorem Own.later {h g av:aA} {v:J} {o:List Nat} (x:Own h g v o) (k:Kept g av):Own h av v o:=⟨x.kept.trans k,x.val.imp id fun⟨r,ab,h2,V⟩=>⟨r,ab,h2,V.kept k⟩⟩
theorem Own.outs {h av:aA} {v:J} {o:List Nat} (x:Own h av v o):∃ids e,∀c1 m p,dG ⟨av.cells,c1,m,p⟩ v=some (cF o e,ids)/\fZ ⟨av.cells,c1,m,p⟩ v=some (cF o e,ids)/\gR ⟨av.cells,c1,m,p⟩ v=some (cF o e,ids):=by
 rcases x.val with⟨rfl,rfl⟩|⟨r,rfl,_,V⟩
 · exact⟨[],true,fun _ _ _=>⟨rfl,rfl,rfl⟩⟩
 · have e:∀c1 m p,dG ⟨av.cells,c1,m,p⟩ (.ref r 0 o.length o.length)=some (cF o false,[r]):=fun c1 m p=>by
    rw[g2]
    simp only[V.cells,Nat.zero_add,o9,Nat.le_refl,w_,and_self,if_true,List.drop_zero]
    rw[List.take_of_length_le (by rw[o9];exact Nat.le_refl _)]
    rfl
   exact⟨[r],false,fun c1 m p=>⟨e c1 m p,e c1 m p,e c1 m p⟩⟩
end
section
set_option maxHeartbeats 8000000
open Go Go.Eng Go.RowKit
attribute [local simp] bx.m bx.o bx.n bx.g gZ eQ df c7 dj evalOp.eq_1 evalOp.eq_2 evalOp.eq_3 evalOp.eq_4 evalOp.eq_5 evalOp.eq_6 evalOp.eq_7 evalOp.eq_8 evalOp.eq_9 evalOp.eq_10 evalOp.eq_11 evalOp.eq_12 evalOp.eq_13 evalOp.eq_14 evalOp.eq_15 evalOp.eq_16 evalOp.eq_17 evalOp.eq_18 evalOp.eq_19 evalOp.eq_20 evalOp.eq_21 evalOp.eq_22 evalOp.eq_23 evalOp.eq_24 evalOp.eq_25 evalOp.eq_27 evalOp.eq_28 evalOp.eq_29 jK bf.ev c6 aF aA.new bj J.cells J.c0 J.ew J.eA hF hH hG hI hK hJ iX iY iZ gm gn cut partOf bound elems ja jb jc jd je jf jg jh ji jj jk jl g2 jm jn jo jq jr js jt ju jv jw jx jy jz jA jB jC jD jE jF jG jH jI jJ eP eJ eB fA hL g0 aA.close aA.set hr jL jM jN i' g1 gv fT fs gf hn gM gg ho hp hq fx fy fz fv hM bY hj hN hk hO hP fq hQ fr hR hS hT gd iW hU hV hW hX hY hZ h0 h1 h3 h4 h5 h6 h7 h8 h9 h_ h' ia ib hl ic ie ig ih ij ik il im iq ir iu iv iw ix iy
attribute [local simp high] iT iU iV iz iA iB iC iD iE iF iG iH iI iJ iK iL iM iN iO iP iQ iR iS
attribute [local simp] aJ List.getElem?_cons_zero List.getElem?_cons_succ eH dp fP Nat.mod_eq_of_lt jY jZ j0 j1 fU j2 j3 j4
section
attribute [local irreducible] ck
attribute [local simp] ed ef dm G' Ha u' va
def HO (h:aA) (id off n Yv g:Nat) (o:List Nat) (i:Nat) (s:a'):Prop:=∃o' c b,o'.length=o.length/\Small o'/\(∀j,j<off\/off+n<j->aS o' j=aS o j)/\c<4294967296/\b<=1/\(n<i->c=0)/\val o'+ay off*(g*(Yv%ay i))=val o+ay off*ay i*(c+b)/\
 s.F 7=fj c/\s.F 8=bM b/\eU s.h id o'/\lE id h s.h
theorem Rx (Y:List c4) (h:aA) {id ry off n cap Yv g:Nat} {o:List Nat} (V:eU h id o) (W:eU h ry (ah Yv)) (bP:ry≠id) (ar:(ah Yv).length=n) (m5:0<n) (eZ:Small o) (fJ:off+n+1<=o.length) (aV:o.length<=1000000000) (bp:g<4294967296):
 ∃v av,fi G (bb Tryz.prog) g_ Y (.fn 262) [.ref id off (n+1) cap,.ref ry 0 n n,fj g] h=some (v,av)/\
  ∃o' b,v= .bool (decide (0<b))/\o'.length=o.length/\Small o'/\(∀j,j<off\/off+n<j->aS o' j=aS o j)/\b<=1/\val o'+ay off*(g*Yv)=val o+ay off*ay (n+1)*b/\eU av id o'/\lE id h av:=by
 refine kM Fp ?_
 have bd:=dO Yv
 have vj:Yv<ay n:=c5.1 (by omega)
 have hw:IntKind.i64.wrap (Z n+Z 1)=Z (n+1):=eH (by omega)
 have vk:∀i,ay off*ay (i+1)=ay off*ay i*4294967296:=fun i=>by rw[ee,Nat.mul_assoc]
 unfold i262
 refine ao [0,1,2,6,7,8,9,10,13,14,15,20] fun F=>?_
 simp only[an]
 intro f0 f1 f2 f6 f7 f8 f9 f10 f13 f14 f15 f20
 simp[bj] at f0 f1 f2 f6 f7 f8 f9 f10 f13 f14 f15 f20
 repeat' (first
  | refine aC ?_
  | ((fail_if_success (refine aT ?_));(fail_if_success (refine aU ?_));refine aO ?_)
  | ((first|(refine aD cr ?_;simp(disch:=omega) [hw,f0,f1,f2,f6,f7,f8,f9,f10,f13,f14,f15,f20];(try(refine⟨by first|decide|rfl,?_⟩)))|(refine aM ?_;simp(disch:=omega) [hw,f0,f1,f2,f6,f7,f8,f9,f10,f13,f14,f15,f20]));(try(refine ao [0,1,2,6,7,8,9,10,13,14,15,20] ?_;intro F;simp only[an];intro U aa af ai au az a2 a5 aY bq bD b8;simp(disch:=omega) [hw,f0,f1,f2,f6,f7,f8,f9,f10,f13,f14,f15,f20] at U aa af ai au az a2 a5 aY bq bD b8;clear f0 f1 f2 f6 f7 f8 f9 f10 f13 f14 f15 f20;have f0:=U;have f1:=aa;have f2:=af;have f6:=ai;have f7:=au;have f8:=az;have f9:=a2;have f10:=a5;have f13:=aY;have f14:=bq;have f15:=bD;have f20:=b8;clear U aa af ai au az a2 a5 aY bq bD b8)))
  | (refine aL _ (by simp(disch:=omega) [hw,f0,f1,f2,f6,f7,f8,f9,f10,f13,f14,f15,f20];rfl) (fun I=>?_) (fun I=>?_)<;>first|(exfalso;simp(disch:=omega) [hw] at I;done)|(exfalso;simp at I;omega)|(simp at I))
  | ((first|refine aH ?_|refine aQ ?_);simp(disch:=omega) [hw,f0,f1,f2,f6,f7,f8,f9,f10,f13,f14,f15,f20]))
 refine kO (n+1) (fun i s=>HO h id off n Yv g o i s/\s.F 14=bt i) (HO h id off n Yv g o (n+1)) (fun _=>False) ?_ ?_ ?_ (fun _ _ h=>h.elim)
 · exact⟨⟨o,0,0,rfl,eZ,fun _ _=>rfl,by decide,by decide,fun _=>rfl,by simp[ft,Nat.mod_one],f7,f8,V.bump _ _ (by omega),(lE.refl id h).bump _ (by omega)⟩,f14⟩
 · rintro i s ag aE ⟨⟨o',c,b,ol,os,oA,g7,pe,AS,aR,kQ,j5,gx,K⟩,Ry⟩
   replace f0:=(aE 0 rfl).trans f0;replace f1:=(aE 1 rfl).trans f1;replace f2:=(aE 2 rfl).trans f2;replace f13:=(aE 13 rfl).trans f13
   clear f7 f8 f14
   have f7:=kQ
   have f8:=j5
   have f14:=Ry
   refine ao [0,1,2,7,8,9,10,13,14,15,20] ?_
   intro F
   simp only[an]
   intro U aa af au az a2 a5 aY bq bD b8
   try simp[aJ,f0,f1,f2,f7,f8,f13,f14] at U aa af au az a2 a5 aY bq bD b8
   clear f0 f1 f2 f7 f8 f13 f14
   have f0:=U
   have f1:=aa
   have f2:=af
   have f7:=au
   have f8:=az
   have f9:=a2
   have f10:=a5
   have f13:=aY
   have f14:=bq
   have f15:=bD
   have f20:=b8
   clear U aa af au az a2 a5 aY bq bD b8
   by_cases aW:i<n+1
   · have ak:=os.aS (off+i)
     have go:=jQ (show off+i<o'.length by omega)
     have sz:=ko (show 0<o'.length by omega)
     have b3:=gx.cells
     have c2:=gx.c1
     have eW:s.h.cells ry=some (bU (ah Yv)):=by rw[K.cells ry W.et bP];exact W.cells
     have fb:=ko (show 0<(ah Yv).length by omega)
     by_cases cL:i<n
     · have HP:=bd.aS i
       have ka:=jQ (show i<(ah Yv).length by omega)
       have rv:=fV Yv i
       generalize fK:aS o' (off+i)=x at*
       generalize aS (ah Yv) i=y at*
       obtain⟨p,a4⟩:∃p,p=g*y+c:=⟨_,rfl⟩
       have WC:g*y<=4294967295*4294967295:=Nat.mul_le_mul (by omega) (by omega)
       have tg:g*y<18446744073709551616:=by omega
       have od:p<18446744073709551616:=by omega
       have t:=z0 (x:=x) (y:=p%4294967296) (c:=b) ak (Nat.mod_lt _ (by decide)) pe
       have mg:(4294967296+x - p%4294967296 - b)%4294967296+p%4294967296+b=x+4294967296*(if x<p%4294967296+b then 1 else 0):=by split<;>omega
       have qI:(if x<p%4294967296+b then 1 else 0)<=1:=by split<;>omega
       have rz:(4294967296+x - p%4294967296 - b)%4294967296<4294967296:=Nat.mod_lt _ (by decide)
       generalize (4294967296+x - p%4294967296 - b)%4294967296=out at*
       generalize (if x<p%4294967296+b then 1 else 0)=hA at*
       have st:=oy o' (off+i) out
       have g8:=nM out (show off+i<o'.length by omega)
       rw[fK,gw] at g8
       have eo:=HM g8 mg (Nat.div_add_mod p 4294967296).symm a4 aR rfl
       rw[rv,<-mn] at eo
       have lv:=a4.symm
       clear a4 mg g8 aR rv
       generalize th:g*y=WD at*
       repeat' (first
        | refine aC ?_
        | ((fail_if_success (refine aT ?_));(fail_if_success (refine aU ?_));refine aO ?_)
        | ((first|(refine aD cr ?_;simp(disch:=omega) [aW,cL,b3,c2,eW,go,ka,sz,fb,st,t,th,lv,tg,od,f0,f1,f2,f7,f8,f9,f10,f13,f14,f15,f20];(try(refine⟨by first|decide|rfl,?_⟩)))|(refine aM ?_;simp(disch:=omega) [aW,cL,b3,c2,eW,go,ka,sz,fb,st,t,th,lv,tg,od,f0,f1,f2,f7,f8,f9,f10,f13,f14,f15,f20]));(try(refine ao [0,1,2,7,8,9,10,13,14,15,20] ?_;intro F;simp only[an];intro U aa af au az a2 a5 aY bq bD b8;simp(disch:=omega) [aW,cL,b3,c2,eW,go,ka,sz,fb,st,t,th,lv,tg,od,f0,f1,f2,f7,f8,f9,f10,f13,f14,f15,f20] at U aa af au az a2 a5 aY bq bD b8;clear f0 f1 f2 f7 f8 f9 f10 f13 f14 f15 f20;have f0:=U;have f1:=aa;have f2:=af;have f7:=au;have f8:=az;have f9:=a2;have f10:=a5;have f13:=aY;have f14:=bq;have f15:=bD;have f20:=b8;clear U aa af au az a2 a5 aY bq bD b8)))
        | (refine aL _ (by simp(disch:=omega) [aW,cL,b3,c2,eW,go,ka,sz,fb,st,t,th,lv,tg,od,f0,f1,f2,f7,f8,f9,f10,f13,f14,f15,f20];rfl) (fun I=>?_) (fun I=>?_)<;>first|(exfalso;simp(disch:=omega) [aW,cL,b3,c2,eW,go,ka,sz,fb,st,t,th,lv,tg,od] at I;done)|(exfalso;simp at I;omega)|(simp at I))
        | ((first|refine aH ?_|refine aQ ?_);simp(disch:=omega) [aW,cL,b3,c2,eW,go,ka,sz,fb,st,t,th,lv,tg,od,f0,f1,f2,f7,f8,f9,f10,f13,f14,f15,f20]))
       refine⟨o'.set (off+i) out,p/4294967296,hA,by rw[List.length_set];exact ol,nN os rz,fun j aZ=>?_,by omega,qI,fun cY=>absurd cY (by omega),by rw[vk i];exact eo,f7,f8,gx.put _ _ _ (by omega),K.put _ _ (by omega)⟩
       rw[oo _ _ (by omega),if_neg (by omega)]
       exact oA j aZ
     · obtain rfl:i=n:=by omega
       generalize fK:aS o' (off+i)=x at*
       have t:=z0 (x:=x) (y:=c) (c:=b) ak g7 pe
       have mg:(4294967296+x - c - b)%4294967296+c+b=x+4294967296*(if x<c+b then 1 else 0):=by split<;>omega
       have qI:(if x<c+b then 1 else 0)<=1:=by split<;>omega
       have rz:(4294967296+x - c - b)%4294967296<4294967296:=Nat.mod_lt _ (by decide)
       generalize (4294967296+x - c - b)%4294967296=out at*
       generalize (if x<c+b then 1 else 0)=hA at*
       have st:=oy o' (off+i) out
       have g8:=nM out (show off+i<o'.length by omega)
       rw[fK,gw] at g8
       have eo:=HM (p:=c) (pl:=c) (c':=0) (y:=0) (g:=g) g8 mg (by omega) (by omega) aR rfl
       rw[Nat.mul_zero,Nat.add_zero,Nat.mod_eq_of_lt vj] at eo
       have ti:c<18446744073709551616:=by omega
       have tj:c/4294967296=0:=Nat.div_eq_of_lt g7
       clear mg g8 aR
       repeat' (first
        | refine aC ?_
        | ((fail_if_success (refine aT ?_));(fail_if_success (refine aU ?_));refine aO ?_)
        | ((first|(refine aD cr ?_;simp(disch:=omega) [aW,b3,c2,eW,go,sz,fb,st,t,ti,g7,tj,f0,f1,f2,f7,f8,f9,f10,f13,f14,f15,f20];(try(refine⟨by first|decide|rfl,?_⟩)))|(refine aM ?_;simp(disch:=omega) [aW,b3,c2,eW,go,sz,fb,st,t,ti,g7,tj,f0,f1,f2,f7,f8,f9,f10,f13,f14,f15,f20]));(try(refine ao [0,1,2,7,8,9,10,13,14,15,20] ?_;intro F;simp only[an];intro U aa af au az a2 a5 aY bq bD b8;simp(disch:=omega) [aW,b3,c2,eW,go,sz,fb,st,t,ti,g7,tj,f0,f1,f2,f7,f8,f9,f10,f13,f14,f15,f20] at U aa af au az a2 a5 aY bq bD b8;clear f0 f1 f2 f7 f8 f9 f10 f13 f14 f15 f20;have f0:=U;have f1:=aa;have f2:=af;have f7:=au;have f8:=az;have f9:=a2;have f10:=a5;have f13:=aY;have f14:=bq;have f15:=bD;have f20:=b8;clear U aa af au az a2 a5 aY bq bD b8)))
        | (refine aL _ (by simp(disch:=omega) [aW,b3,c2,eW,go,sz,fb,st,t,ti,g7,tj,f0,f1,f2,f7,f8,f9,f10,f13,f14,f15,f20];rfl) (fun I=>?_) (fun I=>?_)<;>first|(exfalso;simp(disch:=omega) [aW,b3,c2,eW,go,sz,fb,st,t,ti,g7,tj] at I;done)|(exfalso;simp at I;omega)|(simp at I))
        | ((first|refine aH ?_|refine aQ ?_);simp(disch:=omega) [aW,b3,c2,eW,go,sz,fb,st,t,ti,g7,tj,f0,f1,f2,f7,f8,f9,f10,f13,f14,f15,f20]))
       refine⟨o'.set (off+i) out,0,hA,by rw[List.length_set];exact ol,nN os rz,fun j aZ=>?_,by decide,qI,fun _=>rfl,by rw[Nat.mod_eq_of_lt (Nat.lt_of_lt_of_le vj (l6 (by omega))),vk];exact eo,f7,f8,gx.put _ _ _ (by omega),K.put _ _ (by omega)⟩
       rw[oo _ _ (by omega),if_neg (by omega)]
       exact oA j aZ
   · obtain rfl:i=n+1:=by omega
     repeat' (first
      | refine aC ?_
      | ((fail_if_success (refine aT ?_));(fail_if_success (refine aU ?_));refine aO ?_)
      | ((first|(refine aD cr ?_;simp(disch:=omega) [f0,f1,f2,f7,f8,f9,f10,f13,f14,f15,f20];(try(refine⟨by first|decide|rfl,?_⟩)))|(refine aM ?_;simp(disch:=omega) [f0,f1,f2,f7,f8,f9,f10,f13,f14,f15,f20]));(try(refine ao [0,1,2,7,8,9,10,13,14,15,20] ?_;intro F;simp only[an];intro U aa af au az a2 a5 aY bq bD b8;simp(disch:=omega) [f0,f1,f2,f7,f8,f9,f10,f13,f14,f15,f20] at U aa af au az a2 a5 aY bq bD b8;clear f0 f1 f2 f7 f8 f9 f10 f13 f14 f15 f20;have f0:=U;have f1:=aa;have f2:=af;have f7:=au;have f8:=az;have f9:=a2;have f10:=a5;have f13:=aY;have f14:=bq;have f15:=bD;have f20:=b8;clear U aa af au az a2 a5 aY bq bD b8)))
      | (refine aL _ (by simp(disch:=omega) [f0,f1,f2,f7,f8,f9,f10,f13,f14,f15,f20];rfl) (fun I=>?_) (fun I=>?_)<;>first|(exfalso;simp(disch:=omega) at I;done)|(exfalso;simp at I;omega)|(simp at I))
      | ((first|refine aH ?_|refine aQ ?_);simp(disch:=omega) [f0,f1,f2,f7,f8,f9,f10,f13,f14,f15,f20]))
     exact⟨o',c,b,ol,os,oA,g7,pe,AS,aR,f7,f8,gx.bump _ _ (by omega),K.bump _ (by omega)⟩
 · rintro s aE ⟨o',c,b,ol,os,oA,g7,pe,AS,aR,kQ,j5,gx,K⟩
   clear f7 f8 f14
   have f8:=j5
   have hb:=AS (by omega)
   rw[hb,Nat.zero_add,Nat.mod_eq_of_lt (Nat.lt_of_lt_of_le vj (l6 (by omega)))] at aR
   refine ao [6,8] ?_
   intro F
   simp only[an]
   intro ai az
   try simp[aJ,f8] at ai az
   clear f8
   have f6:=ai
   have f8:=az
   clear ai az
   repeat' (first
    | refine aC ?_
    | ((fail_if_success (refine aT ?_));(fail_if_success (refine aU ?_));refine aO ?_)
    | ((first|(refine aD cr ?_;simp(disch:=omega) [f6,f8];(try(refine⟨by first|decide|rfl,?_⟩)))|(refine aM ?_;simp(disch:=omega) [f6,f8]));(try(refine ao [6,8] ?_;intro F;simp only[an];intro ai az;simp(disch:=omega) [f6,f8] at ai az;clear f6 f8;have f6:=ai;have f8:=az;clear ai az)))
    | (refine aL _ (by simp(disch:=omega) [f6,f8];rfl) (fun I=>?_) (fun I=>?_)<;>first|(exfalso;simp(disch:=omega) at I;done)|(exfalso;simp at I;omega)|(simp at I))
    | ((first|refine aH ?_|refine aQ ?_);simp(disch:=omega) [f6,f8]))
   refine aH ?_
   exact⟨trivial,F 6,rfl,o',b,f6,ol,os,oA,pe,aR,gx.bump _ _ (by omega),K.bump _ (by omega)⟩
def HQ (h:aA) (id off n Yv:Nat) (o:List Nat) (i:Nat) (s:a'):Prop:=∃o' c,o'.length=o.length/\Small o'/\(∀j,j<off\/off+n<=j->aS o' j=aS o j)/\c<=1/\val o'+ay off*ay i*c=val o+ay off*(Yv%ay i)/\
 s.F 4=bM c/\eU s.h id o'/\lE id h s.h
theorem Rz (Y:List c4) (h:aA) {id ry off n cap Yv:Nat} {o:List Nat} (V:eU h id o) (W:eU h ry (ah Yv)) (bP:ry≠id) (ar:(ah Yv).length=n) (m5:0<n) (eZ:Small o) (fJ:off+n+1<=o.length) (aV:o.length<=1000000000):
 ∃v av,fi G (bb Tryz.prog) g_ Y (.fn 263) [.ref id off (n+1) cap,.ref ry 0 n n] h=some (v,av)/\
  ∃o' d,v= .ch []/\o'.length=o.length/\Small o'/\(∀j,j<off\/off+n<j->aS o' j=aS o j)/\val o'+ay off*ay (n+1)*d=val o+ay off*Yv/\eU av id o'/\lE id h av:=by
 refine kM Fq ?_
 have bd:=dO Yv
 have vj:Yv<ay n:=c5.1 (by omega)
 have vk:∀i,ay off*ay (i+1)=ay off*ay i*4294967296:=fun i=>by rw[ee,Nat.mul_assoc]
 unfold i263
 refine ao [0,1,4,5,7,8,9] fun F=>?_
 simp only[an]
 intro f0 f1 f4 f5 f7 f8 f9
 simp[bj] at f0 f1 f4 f5 f7 f8 f9
 repeat' (first
  | refine aC ?_
  | ((fail_if_success (refine aT ?_));(fail_if_success (refine aU ?_));refine aO ?_)
  | ((first|(refine aD cr ?_;simp(disch:=omega) [f0,f1,f4,f5,f7,f8,f9];(try(refine⟨by first|decide|rfl,?_⟩)))|(refine aM ?_;simp(disch:=omega) [f0,f1,f4,f5,f7,f8,f9]));(try(refine ao [0,1,4,5,7,8,9] ?_;intro F;simp only[an];intro U aa ad ae au az a2;simp(disch:=omega) [f0,f1,f4,f5,f7,f8,f9] at U aa ad ae au az a2;clear f0 f1 f4 f5 f7 f8 f9;have f0:=U;have f1:=aa;have f4:=ad;have f5:=ae;have f7:=au;have f8:=az;have f9:=a2;clear U aa ad ae au az a2)))
  | (refine aL _ (by simp(disch:=omega) [f0,f1,f4,f5,f7,f8,f9];rfl) (fun I=>?_) (fun I=>?_)<;>first|(exfalso;simp(disch:=omega) at I;done)|(exfalso;simp at I;omega)|(simp at I))
  | ((first|refine aH ?_|refine aQ ?_);simp(disch:=omega) [f0,f1,f4,f5,f7,f8,f9]))
 refine kO n (fun i s=>HQ h id off n Yv o i s/\s.F 8=bt i) (HQ h id off n Yv o n) (fun _=>False) ?_ ?_ ?_ (fun _ _ h=>h.elim)
 · exact⟨⟨o,0,rfl,eZ,fun _ _=>rfl,by decide,by simp[ft,Nat.mod_one],f4,V.bump _ _ (by omega),(lE.refl id h).bump _ (by omega)⟩,f8⟩
 · rintro i s ag aE ⟨⟨o',c,ol,os,oA,g7,aR,hE,gx,K⟩,j5⟩
   replace f0:=(aE 0 rfl).trans f0;replace f1:=(aE 1 rfl).trans f1;replace f7:=(aE 7 rfl).trans f7
   clear f4 f8
   have f4:=hE
   have f8:=j5
   have tk:=gx.et
   have ks:=Nat.lt_of_lt_of_le W.et K.next
   refine ao [0,1,4,5,7,8,9] ?_
   intro F
   simp only[an]
   intro U aa ad ae au az a2
   try simp[aJ,f0,f1,f4,f7,f8] at U aa ad ae au az a2
   clear f0 f1 f4 f7 f8
   have f0:=U
   have f1:=aa
   have f4:=ad
   have f5:=ae
   have f7:=au
   have f8:=az
   have f9:=a2
   clear U aa ad ae au az a2
   by_cases aW:i<n
   · have ak:=os.aS (off+i)
     have go:=jQ (show off+i<o'.length by omega)
     have sz:=ko (show 0<o'.length by omega)
     have b3:=gx.cells
     have c2:=gx.c1
     have eW:s.h.cells ry=some (bU (ah Yv)):=by rw[K.cells ry W.et bP];exact W.cells
     have fb:=ko (show 0<(ah Yv).length by omega)
     have HP:=bd.aS i
     have ka:=jQ (show i<(ah Yv).length by omega)
     have rv:=fV Yv i
     generalize fK:aS o' (off+i)=x at*
     generalize aS (ah Yv) i=y at*
     have t:=Gf (x:=x) (y:=y) (c:=c) ak HP g7
     have mg:x+y+c=4294967296*((x+y+c)/4294967296)+(x+y+c)%4294967296:=(Nat.div_add_mod _ _).symm
     have rz:(x+y+c)%4294967296<4294967296:=Nat.mod_lt _ (by decide)
     have zg:(x+y+c)/4294967296<=1:=by omega
     generalize (x+y+c)%4294967296=out at*
     generalize (x+y+c)/4294967296=c' at*
     have st:=oy o' (off+i) out
     have g8:=nM out (show off+i<o'.length by omega)
     rw[fK,gw] at g8
     have eo:=HN g8 mg aR rfl
     rw[rv,<-mn] at eo
     have tl:i<n+1:=by omega
     clear mg g8 aR rv
     repeat' (first
      | refine aC ?_
      | ((fail_if_success (refine aT ?_));(fail_if_success (refine aU ?_));refine aO ?_)
      | ((first|(refine aD cr ?_;simp(disch:=omega) [aW,tl,b3,c2,eW,go,ka,sz,fb,st,t,tk,ks,f0,f1,f4,f5,f7,f8,f9];(try(refine⟨by first|decide|rfl,?_⟩)))|(refine aM ?_;simp(disch:=omega) [aW,tl,b3,c2,eW,go,ka,sz,fb,st,t,tk,ks,f0,f1,f4,f5,f7,f8,f9]));(try(refine ao [0,1,4,5,7,8,9] ?_;intro F;simp only[an];intro U aa ad ae au az a2;simp(disch:=omega) [aW,tl,b3,c2,eW,go,ka,sz,fb,st,t,tk,ks,f0,f1,f4,f5,f7,f8,f9] at U aa ad ae au az a2;clear f0 f1 f4 f5 f7 f8 f9;have f0:=U;have f1:=aa;have f4:=ad;have f5:=ae;have f7:=au;have f8:=az;have f9:=a2;clear U aa ad ae au az a2)))
      | (refine aL _ (by simp(disch:=omega) [aW,tl,b3,c2,eW,go,ka,sz,fb,st,t,tk,ks,f0,f1,f4,f5,f7,f8,f9];rfl) (fun I=>?_) (fun I=>?_)<;>first|(exfalso;simp(disch:=omega) [aW,tl,b3,c2,eW,go,ka,sz,fb,st,t,tk,ks] at I;done)|(exfalso;simp at I;omega)|(simp at I))
      | ((first|refine aH ?_|refine aQ ?_);simp(disch:=omega) [aW,tl,b3,c2,eW,go,ka,sz,fb,st,t,tk,ks,f0,f1,f4,f5,f7,f8,f9]))
     refine⟨o'.set (off+i) out,c',by rw[List.length_set];exact ol,nN os rz,fun j aZ=>?_,zg,by rw[vk i];exact eo,f4,gx.put _ _ _ (by omega),K.put _ _ (by omega)⟩
     rw[oo _ _ (by omega),if_neg (by omega)]
     exact oA j aZ
   · obtain rfl:i=n:=by omega
     repeat' (first
      | refine aC ?_
      | ((fail_if_success (refine aT ?_));(fail_if_success (refine aU ?_));refine aO ?_)
      | ((first|(refine aD cr ?_;simp(disch:=omega) [f0,f1,f4,f5,f7,f8,f9];(try(refine⟨by first|decide|rfl,?_⟩)))|(refine aM ?_;simp(disch:=omega) [f0,f1,f4,f5,f7,f8,f9]));(try(refine ao [0,1,4,5,7,8,9] ?_;intro F;simp only[an];intro U aa ad ae au az a2;simp(disch:=omega) [f0,f1,f4,f5,f7,f8,f9] at U aa ad ae au az a2;clear f0 f1 f4 f5 f7 f8 f9;have f0:=U;have f1:=aa;have f4:=ad;have f5:=ae;have f7:=au;have f8:=az;have f9:=a2;clear U aa ad ae au az a2)))
      | (refine aL _ (by simp(disch:=omega) [f0,f1,f4,f5,f7,f8,f9];rfl) (fun I=>?_) (fun I=>?_)<;>first|(exfalso;simp(disch:=omega) at I;done)|(exfalso;simp at I;omega)|(simp at I))
      | ((first|refine aH ?_|refine aQ ?_);simp(disch:=omega) [f0,f1,f4,f5,f7,f8,f9]))
     exact⟨o',c,ol,os,oA,g7,aR,f4,gx.bump _ _ (by omega),K.bump _ (by omega)⟩
 · rintro s aE ⟨o',c,ol,os,oA,g7,aR,hE,gx,K⟩
   replace f0:=(aE 0 rfl).trans f0;replace f1:=(aE 1 rfl).trans f1
   clear f4 f8
   have f4:=hE
   have ak:=os.aS (off+n)
   have go:=jQ (show off+n<o'.length by omega)
   have sz:=ko (show 0<o'.length by omega)
   have b3:=gx.cells
   have c2:=gx.c1
   generalize fK:aS o' (off+n)=x at*
   have mg:x+0+c=4294967296*((x+c)/4294967296)+(x+c)%4294967296:=(Nat.div_add_mod _ _).symm
   have rz:(x+c)%4294967296<4294967296:=Nat.mod_lt _ (by decide)
   have st:=oy o' (off+n) ((x+c)%4294967296)
   have g8:=nM ((x+c)%4294967296) (show off+n<o'.length by omega)
   rw[fK,gw] at g8
   have eo:=HN (y:=0) g8 mg aR rfl
   rw[Nat.mul_zero,Nat.add_zero,Nat.mod_eq_of_lt vj,<-vk] at eo
   have RA:∀j,j<off\/off+n<j->aS (o'.set (off+n) ((x+c)%4294967296)) j=aS o j:=fun j aZ=>by
    rw[oo _ _ (by omega),if_neg (by omega)]
    exact oA j (by omega)
   have RB:=nN (j:=off+n) os rz
   have RC:(o'.set (off+n) ((x+c)%4294967296)).length=o.length:=by rw[List.length_set];exact ol
   clear mg g8 aR
   generalize (x+c)/4294967296=RD at*
   refine ao [0,1,4] ?_
   intro F
   simp only[an]
   intro U aa ad
   try simp[aJ,f0,f1,f4] at U aa ad
   clear f0 f1 f4
   have f0:=U
   have f1:=aa
   have f4:=ad
   clear U aa ad
   repeat' (first
    | refine aC ?_
    | ((fail_if_success (refine aT ?_));(fail_if_success (refine aU ?_));refine aO ?_)
    | ((first|(refine aD cr ?_;simp(disch:=omega) [b3,c2,go,sz,st,f0,f1,f4];(try(refine⟨by first|decide|rfl,?_⟩)))|(refine aM ?_;simp(disch:=omega) [b3,c2,go,sz,st,f0,f1,f4]));(try(refine ao [0,1,4] ?_;intro F;simp only[an];intro U aa ad;simp(disch:=omega) [b3,c2,go,sz,st,f0,f1,f4] at U aa ad;clear f0 f1 f4;have f0:=U;have f1:=aa;have f4:=ad;clear U aa ad)))
    | (refine aL _ (by simp(disch:=omega) [b3,c2,go,sz,st,f0,f1,f4];rfl) (fun I=>?_) (fun I=>?_)<;>first|(exfalso;simp(disch:=omega) [b3,c2,go,sz,st] at I;done)|(exfalso;simp at I;omega)|(simp at I))
    | ((first|refine aH ?_|refine aQ ?_);simp(disch:=omega) [b3,c2,go,sz,st,f0,f1,f4]))
   exact⟨.ch [],rfl,rfl,_,RC,RB,RA,⟨RD,eo⟩,gx.put _ _ _ (by omega),K.put _ _ (by omega)⟩
end
end
section
open Go Go.Eng Go.RowKit
theorem RE {P:Program} {G:Nat->Option J} {f:FuncId} {A:Type} {pre:A->Prop} {enc:A->List J} {out:A->J} (inj:∀a b,enc a=enc b->out a=out b) (q:A->Prop)
 (ab:br P G f (cd (fun a=>pre a/\q a) enc out)) (h2:br P G f (cd (fun a=>pre a/\¬q a) enc out)):br P G f (cd pre enc out):=by
 intro args v cJ
 obtain⟨a,bh,aj,rfl⟩:=uU cJ
 by_cases bc:q a
 · exact ab args (out a) (cU inj a ⟨bh,bc⟩ aj.symm)
 · exact h2 args (out a) (cU inj a ⟨bh,bc⟩ aj.symm)
theorem RF {P nW rA W Y lw rB g:Nat} (l3:Y=nW*P+rB) (WE:rB<P) (ly:W=rA*P+lw) (WG:lw<P) (rC:4294967296<=nW) (bO:W<4294967296*Y) (bp:g=min (rA/nW) 4294967295):W/Y<=g/\g<=W/Y+1/\W/Y<=4294967295:=by
 have mJ:0<P:=by omega
 have HR:0<Y:=by rw[l3];exact Nat.add_pos_left (Nat.mul_pos (by omega) mJ) _
 have bc:=Nat.div_mul_le_self W Y
 have GH:=Nat.lt_succ_of_le (Nat.le_refl (W/Y))
 have WH:W/Y<4294967296:=by rw[Nat.div_lt_iff_lt_mul HR];exact bO
 have WI:W<(W/Y+1)*Y:=by
  have:=Nat.div_add_mod W Y
  have:=Nat.mod_lt W HR
  rw[Nat.add_mul,Nat.mul_comm (W/Y)];omega
 generalize W/Y=Q at*
 have ab:Q<=rA/nW:=by
  rw[Nat.le_div_iff_mul_le (by omega)]
  have e:Q*nW*P<=Q*Y:=by rw[l3,Nat.mul_add,Nat.mul_assoc];omega
  have aB:Q*nW*P<(rA+1)*P:=by rw[Nat.add_mul];omega
  have:=Nat.lt_of_mul_lt_mul_right aB
  omega
 have yN:g*nW<=rA:=by
  have:g<=rA/nW:=by rw[bp];exact Nat.min_le_left _ _
  exact(Nat.le_div_iff_mul_le (by omega)).1 this
 have RG:g<=4294967295:=by rw[bp];exact Nat.min_le_right _ _
 refine⟨by rw[bp];omega,?_,by omega⟩
 have aq:g*Y<W+Y:=by
  have aB:g*Y=g*nW*P+g*rB:=by rw[l3,Nat.mul_add,Nat.mul_assoc]
  have bg:g*nW*P<=rA*P:=Nat.mul_le_mul_right P yN
  have bT:g*rB<=4294967295*P:=Nat.mul_le_mul RG (by omega)
  have dv:4294967296*P<=nW*P:=Nat.mul_le_mul_right P rC
  rw[aB]
  omega
 have aB:g*Y<(Q+2)*Y:=by
  have:(Q+2)*Y=(Q+1)*Y+Y:=by grind
  omega
 have:=Nat.lt_of_mul_lt_mul_right aB
 omega
theorem RH {rD:List Nat} (aG:Small rD) {i n:Nat} (ar:2<=n) (oB:val rD<ay (i+n+1)):val rD/ay i/ay (n - 2)=two (two (aS rD (i+n)) (aS rD (i+n - 1))) (aS rD (i+n - 2)):=by
 rw[o2 aG,o2 aG,o2 aG]
 obtain⟨p,rfl⟩:∃p,n=p+2:=⟨n - 2,by omega⟩
 rw[show i+(p+2) - 1=(i+p)+1 by omega,show i+(p+2) - 2=i+p by omega,show i+(p+2)=(i+p)+1+1 by omega,show p+2 - 2=p by omega,Nat.div_div_eq_div_mul,<-gw,pW,pW]
 rw[show i+(p+2)+1=(i+p)+3 by omega,gw,show ay 3=4294967296*4294967296*4294967296 by simp only[ee,ft],Nat.mul_comm] at oB
 have:=(Nat.div_lt_iff_lt_mul (g3 (i+p))).2 oB
 generalize val rD/ay (i+p)=u at*
 simp only[two]
 omega
theorem RI {Y n:Nat} (ar:2<=n) (l3:Y<ay n):Y/ay (n - 2)=two (aS (ah Y) (n - 1)) (aS (ah Y) (n - 2)):=by
 rw[fV,fV]
 obtain⟨p,rfl⟩:∃p,n=p+2:=⟨n - 2,by omega⟩
 rw[show p+2 - 1=p+1 by omega,show p+2 - 2=p by omega,pW]
 rw[gw,show ay 2=4294967296*4294967296 by simp only[ee,ft],Nat.mul_comm] at l3
 have:=(Nat.div_lt_iff_lt_mul (g3 p)).2 l3
 generalize Y/ay p=u at*
 simp only[two]
 omega
theorem RJ {X oN Y P oW g b Q:Nat} (mJ:0<P) (l3:0<Y) (dN:Q=X/P/Y) (ab:Q<=g) (h2:g<=Q+1) (aR:oN+P*(g*Y)=X+P*oW*b) (aj:b<=1) (oB:oN<P*oW) (WJ:X<P*oW):
 (b=0->g=Q/\oN+P*(Q*Y)=X)/\(b=1->g=Q+1/\∀xz d,xz+P*oW*d=oN+P*Y->xz<P*oW->xz+P*(Q*Y)=X)/\X<P*((Q+1)*Y)/\P*(Q*Y)<=X:=by
 have bA:=Nat.div_add_mod X P
 have hm:=Nat.mod_lt X mJ
 have o4:=Nat.div_add_mod (X/P) Y
 have Hn:=Nat.mod_lt (X/P) l3
 rw[<-dN] at o4
 have aa:P*(Q*Y)<=X:=by
  have:P*(Q*Y)<=P*(X/P):=Nat.mul_le_mul_left P (by rw[Nat.mul_comm];omega)
  omega
 have af:X<P*((Q+1)*Y):=by
  have e:X/P+1<=(Q+1)*Y:=by rw[Nat.add_mul,Nat.mul_comm Q];omega
  have:=Nat.mul_le_mul_left P e
  rw[Nat.mul_add] at this
  omega
 refine⟨fun h=>?_,fun h=>?_,af,aa⟩
 · subst h
   rw[Nat.mul_zero,Nat.add_zero] at aR
   have:g=Q:=by
    refine Nat.le_antisymm ?_ ab
    refine Nat.le_of_not_lt fun bO=>?_
    have e:P*((Q+1)*Y)<=P*(g*Y):=Nat.mul_le_mul_left P (Nat.mul_le_mul_right Y bO)
    omega
   subst this
   exact⟨rfl,aR⟩
 · subst h
   rw[Nat.mul_one] at aR
   have:g=Q+1:=by
    refine Nat.le_antisymm h2 ?_
    refine Nat.lt_of_le_of_ne ab fun he=>?_
    subst he
    omega
   subst this
   refine⟨rfl,fun xz d aX aW=>?_⟩
   have e:P*((Q+1)*Y)=P*(Q*Y)+P*Y:=by rw[Nat.add_mul,Nat.one_mul,Nat.mul_add]
   have RK:d=1:=by
    rcases Nat.lt_trichotomy d 1 with h|h|h
    · have:d=0:=by omega
      subst this
      omega
    · exact h
    · have:P*oW*2<=P*oW*d:=Nat.mul_le_mul_left _ h
      have bg:P*Y<=P*((Q+1)*Y):=by rw[e];omega
      omega
   subst RK
   omega
end
section
set_option maxHeartbeats 8000000
open Go Go.Eng Go.RowKit
attribute [local simp] bx.m bx.o bx.n bx.g gZ eQ df c7 dj evalOp.eq_1 evalOp.eq_2 evalOp.eq_3 evalOp.eq_4 evalOp.eq_5 evalOp.eq_6 evalOp.eq_7 evalOp.eq_8 evalOp.eq_9 evalOp.eq_10 evalOp.eq_11 evalOp.eq_12 evalOp.eq_13 evalOp.eq_14 evalOp.eq_15 evalOp.eq_16 evalOp.eq_17 evalOp.eq_18 evalOp.eq_19 evalOp.eq_20 evalOp.eq_21 evalOp.eq_22 evalOp.eq_23 evalOp.eq_24 evalOp.eq_25 evalOp.eq_27 evalOp.eq_28 evalOp.eq_29 jK bf.ev c6 aF aA.new bj J.cells J.c0 J.ew J.eA hF hH hG hI hK hJ iX iY iZ gm gn cut partOf bound elems ja jb jc jd je jf jg jh ji jj jk jl g2 jm jn jo jq jr js jt ju jv jw jx jy jz jA jB jC jD jE jF jG jH jI jJ eP eJ eB fA hL g0 aA.close aA.set hr jL jM jN i' g1 gv fT fs gf hn gM gg ho hp hq fx fy fz fv hM bY hj hN hk hO hP fq hQ fr hR hS hT gd iW hU hV hW hX hY hZ h0 h1 h3 h4 h5 h6 h7 h8 h9 h_ h' ia ib hl ic ie ig ih ij ik il im iq ir iu iv iw ix iy
attribute [local simp high] iT iU iV iz iA iB iC iD iE iF iG iH iI iJ iK iL iM iN iO iP iQ iR iS
attribute [local simp] aJ List.getElem?_cons_zero List.getElem?_cons_succ eH dp fP Nat.mod_eq_of_lt jY jZ j0 j1 fU j2 j3 j4
section
attribute [local irreducible] ck
attribute [local simp] ed ef dm
noncomputable def xA:FuncId->Option (List J->Option J):=dn [(171,nb),(259,s9),(170,kl)]
theorem RL:∀f T,xA f=some T->br Tryz.prog G f T:=dr (by simp only[List.forall_mem_cons];exact⟨u1,G9,o3,fun _ h=>absurd h (by simp)⟩)
theorem RM:xA 171=some nb:=rfl
theorem RN:xA 259=some s9:=rfl
theorem RO:xA 170=some kl:=rfl
attribute [local simp] RM RN RO
noncomputable def tm:List J->Option J:=cd (fun z:Nat × Nat=>(ah z.1).length<=10000000/\(ah z.2).length<=10000000) (fun z=>[aw z.1,aw z.2]) (fun z=>if z.2=0 then .ch [.sl [] false,.sl [] false,bt 3] else .ch [aw (z.1/z.2),aw (z.1%z.2),bt 0])
theorem HS (z:Nat × Nat) (h:(ah z.1).length<=10000000/\(ah z.2).length<=10000000) {args:List J} (he:args.map J.loose= [aw z.1,aw z.2]):tm args=some (if z.2=0 then .ch [.sl [] false,.sl [] false,bt 3] else .ch [aw (z.1/z.2),aw (z.1%z.2),bt 0]):=cU (fun z w h=>by first|(simp only[List.cons.injEq,J.int.injEq,J.bool.injEq,J.sl.injEq,cl,cm,ct,cu,cp,b2,b6,cn,bY,true_and,and_true] at h;simp[h];done)|(simp only[J.agg.injEq,List.cons.injEq,J.int.injEq,J.bool.injEq,J.sl.injEq,cl,cm,ct,cu,cp,b2,b6,cn,bY,true_and,and_true] at h;simp[h])) z h he
def vl (z:Nat × Nat):Prop:=z.2=0\/z.1<z.2\/(ah z.2).length<=1
theorem RP:br Tryz.prog G 205 (cd (fun z:Nat × Nat=>((ah z.1).length<=10000000/\(ah z.2).length<=10000000)/\vl z) (fun z=>[aw z.1,aw z.2]) (fun z=>if z.2=0 then .ch [.sl [] false,.sl [] false,bt 3] else .ch [aw (z.1/z.2),aw (z.1%z.2),bt 0])):=by
 refine cG mixed RL zD fun z aP=>?_
 obtain⟨a,b⟩:=z
 obtain⟨⟨cE,bU⟩,bc⟩:=aP
 simp only[vl] at cE bU bc|-
 unfold i205
 have cK:=fu
 by_cases c_:b=0
 · rw[if_pos c_]
   subst c_
   refine ao [0,1,4,5,6,7,8,10,11,12,13,14,15,16,17,21,27,61,76,119] fun F=>?_
   simp only[an]
   intro f0 f1 f4 f5 f6 f7 f8 f10 f11 f12 f13 f14 f15 f16 f17 f21 f27 f61 f76 f119
   simp[bj] at f0 f1 f4 f5 f6 f7 f8 f10 f11 f12 f13 f14 f15 f16 f17 f21 f27 f61 f76 f119
   repeat' (first
    | refine aC ?_
    | ((fail_if_success (refine aT ?_));(fail_if_success (refine aU ?_));refine aO ?_)
    | ((first|(refine aD aN ?_;simp(disch:=omega) [cK,f0,f1,f4,f5,f6,f7,f8,f10,f11,f12,f13,f14,f15,f16,f17,f21,f27,f61,f76,f119];(try(refine⟨by first|decide|rfl,?_⟩)))|(refine aM ?_;simp(disch:=omega) [cK,f0,f1,f4,f5,f6,f7,f8,f10,f11,f12,f13,f14,f15,f16,f17,f21,f27,f61,f76,f119]));(try(refine ao [0,1,4,5,6,7,8,10,11,12,13,14,15,16,17,21,27,61,76,119] ?_;intro F;simp only[an];intro U aa ad ae ai au az a5 bl a9 aY bq bD b9 cB d_ bL fE ea eI;simp(disch:=omega) [cK,f0,f1,f4,f5,f6,f7,f8,f10,f11,f12,f13,f14,f15,f16,f17,f21,f27,f61,f76,f119] at U aa ad ae ai au az a5 bl a9 aY bq bD b9 cB d_ bL fE ea eI;clear f0 f1 f4 f5 f6 f7 f8 f10 f11 f12 f13 f14 f15 f16 f17 f21 f27 f61 f76 f119;have f0:=U;have f1:=aa;have f4:=ad;have f5:=ae;have f6:=ai;have f7:=au;have f8:=az;have f10:=a5;have f11:=bl;have f12:=a9;have f13:=aY;have f14:=bq;have f15:=bD;have f16:=b9;have f17:=cB;have f21:=d_;have f27:=bL;have f61:=fE;have f76:=ea;have f119:=eI;clear U aa ad ae ai au az a5 bl a9 aY bq bD b9 cB d_ bL fE ea eI)))
    | (refine aL _ (by simp(disch:=omega) [cK,f0,f1,f4,f5,f6,f7,f8,f10,f11,f12,f13,f14,f15,f16,f17,f21,f27,f61,f76,f119];rfl) (fun I=>?_) (fun I=>?_)<;>first|(exfalso;simp(disch:=omega) [cK] at I;done)|(exfalso;simp at I;omega)|(simp at I))
    | ((first|refine aH ?_|refine aQ ?_);simp(disch:=omega) [cK,f0,f1,f4,f5,f6,f7,f8,f10,f11,f12,f13,f14,f15,f16,f17,f21,f27,f61,f76,f119]))
 rw[if_neg c_]
 have fR:(ah b).length≠0:=by have:=mo.2 c_;omega
 have gC:ah b≠ []:=fun h=>c_ (jO.1 h)
 have dC:=u0 (a:=a) (b:=b) (e:=false) (e':=false) (by omega) (by omega)
 by_cases bO:a<b
 · have eg:dV a b= -1:=by simp[dV,bO]
   rw[eg] at dC
   rw[Nat.div_eq_of_lt bO,Nat.mod_eq_of_lt bO]
   have kt:((-1:Int)<Z 0)=True:=by simp[Z]
   refine ao [0,1,4,5,6,7,8,10,11,12,13,14,15,16,17,21,27,61,76,119] fun F=>?_
   simp only[an]
   intro f0 f1 f4 f5 f6 f7 f8 f10 f11 f12 f13 f14 f15 f16 f17 f21 f27 f61 f76 f119
   simp[bj] at f0 f1 f4 f5 f6 f7 f8 f10 f11 f12 f13 f14 f15 f16 f17 f21 f27 f61 f76 f119
   repeat' (first
    | refine aC ?_
    | ((fail_if_success (refine aT ?_));(fail_if_success (refine aU ?_));refine aO ?_)
    | ((first|(refine aD aN ?_;simp(disch:=omega) [dC,fR,gC,kt,cK,f0,f1,f4,f5,f6,f7,f8,f10,f11,f12,f13,f14,f15,f16,f17,f21,f27,f61,f76,f119];(try(refine⟨by first|decide|rfl,?_⟩)))|(refine aM ?_;simp(disch:=omega) [dC,fR,gC,kt,cK,f0,f1,f4,f5,f6,f7,f8,f10,f11,f12,f13,f14,f15,f16,f17,f21,f27,f61,f76,f119]));(try(refine ao [0,1,4,5,6,7,8,10,11,12,13,14,15,16,17,21,27,61,76,119] ?_;intro F;simp only[an];intro U aa ad ae ai au az a5 bl a9 aY bq bD b9 cB d_ bL fE ea eI;simp(disch:=omega) [dC,fR,gC,kt,cK,f0,f1,f4,f5,f6,f7,f8,f10,f11,f12,f13,f14,f15,f16,f17,f21,f27,f61,f76,f119] at U aa ad ae ai au az a5 bl a9 aY bq bD b9 cB d_ bL fE ea eI;clear f0 f1 f4 f5 f6 f7 f8 f10 f11 f12 f13 f14 f15 f16 f17 f21 f27 f61 f76 f119;have f0:=U;have f1:=aa;have f4:=ad;have f5:=ae;have f6:=ai;have f7:=au;have f8:=az;have f10:=a5;have f11:=bl;have f12:=a9;have f13:=aY;have f14:=bq;have f15:=bD;have f16:=b9;have f17:=cB;have f21:=d_;have f27:=bL;have f61:=fE;have f76:=ea;have f119:=eI;clear U aa ad ae ai au az a5 bl a9 aY bq bD b9 cB d_ bL fE ea eI)))
    | (refine aL _ (by simp(disch:=omega) [dC,fR,gC,kt,cK,f0,f1,f4,f5,f6,f7,f8,f10,f11,f12,f13,f14,f15,f16,f17,f21,f27,f61,f76,f119];rfl) (fun I=>?_) (fun I=>?_)<;>first|(exfalso;simp(disch:=omega) [dC,fR,gC,kt,cK] at I;done)|(exfalso;simp at I;omega)|(simp at I))
    | ((first|refine aH ?_|refine aQ ?_);simp(disch:=omega) [dC,fR,gC,kt,cK,f0,f1,f4,f5,f6,f7,f8,f10,f11,f12,f13,f14,f15,f16,f17,f21,f27,f61,f76,f119,cK]))
 · have eg:(dV a b<Z 0)=False:=by
    simp only[dV,if_neg bO,Z];split<;>simp
   generalize dV a b=w1 at*
   have qJ:(ah b).length=1:=by omega
   have pe:b<4294967296:=by
    have:=c5.1 (show (ah b).length<=1 by omega)
    rwa [ee,ft,Nat.one_mul] at this
   have cR:=(kj (show 0<(ah b).length by omega)).symm
   rw[fV,ft,Nat.div_one,Nat.mod_eq_of_lt pe] at cR
   have b7:=QC (a,b) ⟨show (ah a).length<=100000000 by omega,pe⟩ (args:=[aw a,bM b]) (by simp)
   simp only[if_neg c_] at b7
   have RQ:a%b<4294967296:=Nat.lt_trans (Nat.mod_lt _ (Nat.pos_of_ne_zero c_)) pe
   have bW:=ou (l:=[a%b]) (e:=true) (ld.2 ⟨RQ,Small.nil⟩) (by simp)
   rw[show val [a%b]=a%b by simp[val]] at bW
   simp only[List.map_cons,List.map_nil] at bW
   generalize a/b=q at*
   generalize a%b=r at*
   refine ao [0,1,4,5,6,7,8,10,11,12,13,14,15,16,17,21,27,61,76,119] fun F=>?_
   simp only[an]
   intro f0 f1 f4 f5 f6 f7 f8 f10 f11 f12 f13 f14 f15 f16 f17 f21 f27 f61 f76 f119
   simp[bj] at f0 f1 f4 f5 f6 f7 f8 f10 f11 f12 f13 f14 f15 f16 f17 f21 f27 f61 f76 f119
   repeat' (first
    | refine aC ?_
    | ((fail_if_success (refine aT ?_));(fail_if_success (refine aU ?_));refine aO ?_)
    | ((first|(refine aD aN ?_;simp(disch:=omega) [dC,fR,gC,eg,qJ,cR,b7,bW,f0,f1,f4,f5,f6,f7,f8,f10,f11,f12,f13,f14,f15,f16,f17,f21,f27,f61,f76,f119];(try(refine⟨by first|decide|rfl,?_⟩)))|(refine aM ?_;simp(disch:=omega) [dC,fR,gC,eg,qJ,cR,b7,bW,f0,f1,f4,f5,f6,f7,f8,f10,f11,f12,f13,f14,f15,f16,f17,f21,f27,f61,f76,f119]));(try(refine ao [0,1,4,5,6,7,8,10,11,12,13,14,15,16,17,21,27,61,76,119] ?_;intro F;simp only[an];intro U aa ad ae ai au az a5 bl a9 aY bq bD b9 cB d_ bL fE ea eI;simp(disch:=omega) [dC,fR,gC,eg,qJ,cR,b7,bW,f0,f1,f4,f5,f6,f7,f8,f10,f11,f12,f13,f14,f15,f16,f17,f21,f27,f61,f76,f119] at U aa ad ae ai au az a5 bl a9 aY bq bD b9 cB d_ bL fE ea eI;clear f0 f1 f4 f5 f6 f7 f8 f10 f11 f12 f13 f14 f15 f16 f17 f21 f27 f61 f76 f119;have f0:=U;have f1:=aa;have f4:=ad;have f5:=ae;have f6:=ai;have f7:=au;have f8:=az;have f10:=a5;have f11:=bl;have f12:=a9;have f13:=aY;have f14:=bq;have f15:=bD;have f16:=b9;have f17:=cB;have f21:=d_;have f27:=bL;have f61:=fE;have f76:=ea;have f119:=eI;clear U aa ad ae ai au az a5 bl a9 aY bq bD b9 cB d_ bL fE ea eI)))
    | (refine aL _ (by simp(disch:=omega) [dC,fR,gC,eg,qJ,cR,b7,bW,f0,f1,f4,f5,f6,f7,f8,f10,f11,f12,f13,f14,f15,f16,f17,f21,f27,f61,f76,f119];rfl) (fun I=>?_) (fun I=>?_)<;>first|(exfalso;simp(disch:=omega) [dC,fR,gC,eg,qJ,cR,b7,bW] at I;done)|(exfalso;simp at I;omega)|(simp at I))
    | ((first|refine aH ?_|refine aQ ?_);simp(disch:=omega) [dC,fR,gC,eg,qJ,cR,b7,bW,f0,f1,f4,f5,f6,f7,f8,f10,f11,f12,f13,f14,f15,f16,f17,f21,f27,f61,f76,f119]))
end
end
section
set_option maxHeartbeats 8000000
open Go Go.Eng Go.RowKit
theorem RR {b n t:Nat} (ar:0<n) (aj:(ah b).length=n) (a7:t=b/ay (n - 1)):
 t<4294967296/\32 - dJ t<=31/\b*2^(32 - dJ t)<ay n/\ay n<=2*(b*2^(32 - dJ t))/\(ah (b*2^(32 - dJ t))).length=n:=by
 obtain⟨p,rfl⟩:∃p,n=p+1:=⟨n - 1,by omega⟩
 rw[Nat.add_sub_cancel] at a7
 have ab:b<ay (p+1):=c5.1 (by omega)
 have h2:ay p<=b:=Nat.le_of_not_lt fun h=>by have:=c5.2 h;omega
 have mJ:=g3 p
 have t0:t≠0:=by
  have:0<t:=by rw[a7];exact Nat.div_pos h2 mJ
  omega
 have t9:t<4294967296:=by rw[a7,Nat.div_lt_iff_lt_mul mJ,Nat.mul_comm,<-ee];exact ab
 have cP:dJ t<=32:=oj.2 t9
 have dR:dJ t≠0:=fun h=>t0 (NL.1 h)
 have kC:t<2^dJ t:=oj.1 (Nat.le_refl _)
 have xe:2^(dJ t - 1)<=t:=FR.1 (by omega)
 obtain⟨k,aE⟩:∃k,dJ t=k+1:=⟨dJ t - 1,by omega⟩
 rw[aE] at cP kC xe|-
 rw[show k+1 - 1=k by omega] at xe
 have bA:=Nat.div_add_mod b (ay p)
 have hm:=Nat.mod_lt b mJ
 rw[<-a7] at bA
 generalize b%ay p=u at*
 have eV:b*2^(32 -(k+1))<ay (p+1):=by
  have e:b<ay p*2^(k+1):=by
   have:=Nat.mul_le_mul_left (ay p) (show t+1<=2^(k+1) from kC)
   rw[Nat.mul_add] at this
   omega
  have:=Nat.mul_lt_mul_of_pos_right e (Nat.pow_pos (n:=32 -(k+1)) (show 0<2 by decide))
  rw[Nat.mul_assoc,<-Nat.pow_add,show k+1+(32 -(k+1))=32 by omega] at this
  rw[ee]
  exact this
 have fL:ay (p+1)<=2*(b*2^(32 -(k+1))):=by
  have e:ay p*2^k<=b:=by
   have:=Nat.mul_le_mul_left (ay p) xe
   omega
  have:=Nat.mul_le_mul_right (2*2^(32 -(k+1))) e
  rw[Nat.mul_assoc,Nat.mul_left_comm (2^k),<-Nat.pow_add,show k+(32 -(k+1))=31 by omega] at this
  rw[ee]
  have aB:ay p*(2*2^31)=ay p*4294967296:=by simp
  rw[aB,Nat.mul_left_comm] at this
  exact this
 refine⟨t9,by omega,eV,fL,?_⟩
 have v1:=c5.2 eV
 have v2:¬(ah (b*2^(32 -(k+1)))).length<=p:=fun h=>by
  have:=c5.1 h
  rw[ee] at fL
  omega
 omega
theorem RS {a A s eO:Nat} (aI:(ah a).length=A) (aG:s<=31) (lL:a*2^s=eO) (dD:a≠0):A<=(ah eO).length/\(ah eO).length<=A+1/\eO<ay A*2147483648:=by
 have ab:a<ay A:=c5.1 (by omega)
 have h2:2^s<=2147483648:=Nat.pow_le_pow_right (n:=2) (by decide) aG
 have aX:0<2^s:=Nat.pow_pos (by decide)
 have aW:eO<ay A*2147483648:=by
  rw[<-lL]
  exact Nat.lt_of_lt_of_le (Nat.mul_lt_mul_of_pos_right ab aX) (Nat.mul_le_mul_left _ h2)
 have cL:a<=eO:=by rw[<-lL];exact Nat.le_mul_of_pos_right a aX
 refine⟨?_,c5.2 (by rw[ee];exact Nat.lt_of_lt_of_le aW (Nat.mul_le_mul_left _ (by decide))),aW⟩
 refine Nat.le_of_not_lt fun h=>?_
 have fo:=c5.1 (Nat.le_refl (ah eO).length)
 have CV:(ah a).length<=(ah eO).length:=c5.2 (by omega)
 omega
theorem RT {r:Nat} {h:aA} {q n v:Nat} {e:Bool} {o:List Nat} (bZ:h.shut q=false) (I:h.cells q=some (bU o)) (ar:o.length=n) (aJ:0<n) (aV:n<=1000000000):
 ki r 1 4 h (.ref q 0 n n) (.sl [.int .u32 (Z v)] e)=some (.ref r 0 (n+1) (n+1),⟨aF (aF h.cells q none) r (some (bU (o++ [v]))),h.shut,h.next,h.bm⟩,.wr):=by
 have aq:elems h (.sl [.int .u32 (Z v)] e)=some [.int .u32 (Z v)]:=rfl
 have aB:bU (o++ [v])=List.take n (bU o)++ [.int .u32 (Z v)]:=by rw[w' (by omega)];simp[bU]
 unfold ki
 rw[aq,aB]
 simp only[Option.bind_some]
 rw[if_pos ⟨by decide,by decide,rfl⟩]
 simp only[List.length_cons,List.length_nil,Nat.zero_add,Nat.reduceAdd,bZ,I,Option.bind_some,Bool.false_eq_true,if_false]
 rw[if_neg (by decide),if_pos ⟨by rw[o9];omega,by omega,by decide,QJ o⟩,if_neg (by omega),if_pos ⟨by first|rfl|trivial,aJ⟩]
theorem xB:∀ {o:List Nat},Small o->∀ {k},(∀j,k<=j->aS o j=0)->val o<ay k
 | [],_,k,_=>by simp only[val];exact g3 k
 | x::l,aG,0,h=>by
   have aJ:x=0:=by simpa[aS] using h 0 (Nat.le_refl _)
   have ab:=xB (ld.1 aG).2 (k:=0) (fun j _=>by simpa[aS] using h (j+1) (Nat.zero_le _))
   rw[ft] at*
   simp only[val];omega
 | x::l,aG,k+1,h=>by
   have aJ:=(ld.1 aG).1
   have ab:=xB (ld.1 aG).2 (k:=k) (fun j aZ=>by simpa[aS] using h (j+1) (by omega))
   rw[ee]
   simp only[val];omega
theorem HT {o:List Nat} (aG:Small o) {k j:Nat} (h:val o<ay k) (aZ:k<=j):aS o j=0:=by
 rw[o2 aG,Nat.div_eq_of_lt (Nat.lt_of_lt_of_le h (l6 aZ))]
def HU (m n eO Y b5 r q k:Nat) (s:a'):Prop:=(∀j,s.h.shut j=false)/\eU s.h b5 (ah Y)/\∃cD fc,cD.length=m+n/\fc.length=m/\Small cD/\Small fc/\eU s.h r cD/\eU s.h q fc/\(∀j,j<k->aS fc j=0)/\val fc*Y+val cD=eO/\val cD<ay k*Y
theorem RU {cD:List Nat} {i n Y:Nat} (xs:Small cD) (ar:2<=n) (tn:Y<ay n) (rC:ay n<=2*Y) (aR:val cD<ay (i+1)*Y):
 val cD<ay (i+n+1)/\aS cD (i+n)<=aS (ah Y) (n - 1)/\aS (ah Y) (n - 1)≠0/\
 (val cD/ay i/Y<=lD (aS cD (i+n)) (aS cD (i+n - 1)) (aS cD (i+n - 2)) (aS (ah Y) (n - 1)) (aS (ah Y) (n - 2))/\
   lD (aS cD (i+n)) (aS cD (i+n - 1)) (aS cD (i+n - 2)) (aS (ah Y) (n - 1)) (aS (ah Y) (n - 2))<=val cD/ay i/Y+1/\val cD/ay i/Y<=4294967295):=by
 have a4:=g3 i
 have oB:val cD<ay (i+n+1):=by
  rw[show i+n+1=(i+1)+n by omega,gw]
  exact Nat.lt_of_lt_of_le aR (Nat.mul_le_mul_left _ (Nat.le_of_lt tn))
 have ly:val cD/ay i<4294967296*Y:=by
  rw[Nat.div_lt_iff_lt_mul a4,Nat.mul_comm,<-Nat.mul_assoc,<-ee];exact aR
 have mJ:=g3 (n - 2)
 have al:=RH xs ar oB
 have af:=RI ar tn
 have WK:aS (ah Y) (n - 1)<4294967296:=(dO Y).aS _
 have jU:aS (ah Y) (n - 2)<4294967296:=(dO Y).aS _
 have Qj:aS cD (i+n - 1)<4294967296:=xs.aS _
 have fK:aS cD (i+n - 2)<4294967296:=xs.aS _
 have qd:4294967296<=Y/ay (n - 2):=by
  rw[Nat.le_div_iff_mul_le mJ,Nat.mul_comm,<-ee,show n - 2+1=n - 1 by omega]
  have:ay n=ay (n - 1)*4294967296:=by rw[<-ee,show n - 1+1=n by omega]
  omega
 have HV:val cD/ay i/ay (n - 2)<4294967296*(Y/ay (n - 2)+1):=by
  rw[Nat.div_lt_iff_lt_mul mJ]
  have ab:=Nat.div_add_mod Y (ay (n - 2))
  have h2:=Nat.mod_lt Y mJ
  have aX:Y<(Y/ay (n - 2)+1)*ay (n - 2):=by rw[Nat.add_mul,Nat.mul_comm (Y/ay (n - 2))];omega
  rw[Nat.mul_assoc]
  exact Nat.lt_of_lt_of_le ly (Nat.mul_le_mul_left _ (Nat.le_of_lt aX))
 have HW:=RF (P:=ay (n - 2)) (Nat.div_add_mod' Y (ay (n - 2))).symm (Nat.mod_lt _ mJ) (Nat.div_add_mod' (val cD/ay i) (ay (n - 2))).symm (Nat.mod_lt _ mJ) qd ly rfl
 rw[al,af] at HW
 rw[al,af] at HV
 rw[af] at qd
 refine⟨oB,?_,?_,HW⟩
 · generalize aS cD (i+n)=x2 at*
   generalize aS (ah Y) (n - 1)=y1 at*
   simp only[two] at HV
   omega
 · intro h
   rw[h] at qd
   simp only[two] at qd
   omega
def HX (L eO Y b5:Nat) (s:a'):Prop:=(∀j,s.h.shut j=false)/\eU s.h b5 (ah Y)/\∃r cD,s.F 12= .ref r 0 L L/\cD.length=L/\val cD=eO/\Small cD/\r≠b5/\eU s.h r cD
theorem eU.off {h:aA} {p q:Nat} {o:List Nat} (R:eU h p o) (bP:p≠q) (v:Option (List J)) (m:Nat) (gY:Nat->Option fw) (hm:h.next<=m):eU ⟨aF h.cells q v,h.shut,m,gY⟩ p o:=
 ⟨by show aF h.cells q v p=_;simp only[aF,if_neg bP];exact R.cells,R.c1,Nat.lt_of_lt_of_le R.et hm⟩
theorem lE.vec {id:Nat} {h av:aA} (K:lE id h av) {q:Nat} {o:List Nat} (V:eU h q o) (bP:q≠id):eU av q o:=
 ⟨by rw[K.cells q V.et bP];exact V.cells,by rw[K.shut];exact V.c1,Nat.lt_of_lt_of_le V.et K.next⟩
theorem HY {xp HZ lu AT P Q Y eO:Nat} (bc:HZ=xp+P*Q) (aR:xp*Y+lu=eO) (ak:AT+P*(Q*Y)=lu) (bO:lu<P*((Q+1)*Y)):HZ*Y+AT=eO/\AT<P*Y:=by
 subst bc
 refine⟨by rw[<-aR,<-ak];grind,?_⟩
 have e:P*((Q+1)*Y)=P*(Q*Y)+P*Y:=by grind
 omega
end
section
set_option maxHeartbeats 8000000
open Go Go.Eng Go.RowKit
attribute [local simp] bx.m bx.o bx.n bx.g gZ eQ df c7 dj evalOp.eq_1 evalOp.eq_2 evalOp.eq_3 evalOp.eq_4 evalOp.eq_5 evalOp.eq_6 evalOp.eq_7 evalOp.eq_8 evalOp.eq_9 evalOp.eq_10 evalOp.eq_11 evalOp.eq_12 evalOp.eq_13 evalOp.eq_14 evalOp.eq_15 evalOp.eq_16 evalOp.eq_17 evalOp.eq_18 evalOp.eq_19 evalOp.eq_20 evalOp.eq_21 evalOp.eq_22 evalOp.eq_23 evalOp.eq_24 evalOp.eq_25 evalOp.eq_27 evalOp.eq_28 evalOp.eq_29 jK bf.ev c6 aF aA.new bj J.cells J.c0 J.ew J.eA hF hH hG hI hK hJ iX iY iZ gm gn cut partOf bound elems ja jb jc jd je jf jg jh ji jj jk jl g2 jm jn jo jq jr js jt ju jv jw jx jy jz jA jB jC jD jE jF jG jH jI jJ eP eJ eB fA hL g0 aA.close aA.set hr jL jM jN i' g1 gv fT fs gf hn gM gg ho hp hq fx fy fz fv hM bY hj hN hk hO hP fq hQ fr hR hS hT gd iW hU hV hW hX hY hZ h0 h1 h3 h4 h5 h6 h7 h8 h9 h_ h' ia ib hl ic ie ig ih ij ik il im iq ir iu iv iw ix iy
attribute [local simp high] iT iU iV iz iA iB iC iD iE iF iG iH iI iJ iK iL iM iN iO iP iQ iR iS
attribute [local simp] aJ List.getElem?_cons_zero List.getElem?_cons_succ eH dp fP Nat.mod_eq_of_lt jY jZ j0 j1 fU j2 j3 j4
section
attribute [local irreducible] ck
attribute [local simp] ed ef dm xh xi xj xk xl xm u' va
theorem RV {m n Y b5 r q i ss g:Nat} {s:a'} {cD fc:List Nat} {aX:aA} (dP:2<=n) (nA:m+n<=10000001) (g9:i<m) (pf:(ah Y).length=n) (l_:cD.length=m+n) (fQ:fc.length=m)
 (f10:s.F 10=bt ss) (f11:s.F 11= .ref b5 0 n n) (f12:s.F 12= .ref r 0 (m+n) (m+n)) (f13:s.F 13=bt n) (f14:s.F 14= .ref q 0 m m) (f15:s.F 15=bt i)
 (fG:s.h.cells r=some (bU cD)) (eW:s.h.cells b5=some (bU (ah Y))) (k1:s.h.shut r=false) (xC:r<s.h.next) (xD:b5<s.h.next)
 (ll:s7 [bM (aS cD (i+n)),bM (aS cD (i+n - 1)),bM (aS cD (i+n - 2)),bM (aS (ah Y) (n - 1)),bM (aS (ah Y) (n - 2))]=some (fj g)) (bp:g<4294967296)
 (bg:fi G (bb Tryz.prog) g_ [] (.fn 262) [.ref r i (n+1) (m+n - i),.ref b5 0 n n,fj g] ⟨s.h.cells,s.h.shut,s.h.next+2+32+10,s.h.bm⟩=some (.bool false,aX))
 (pg:aX.cells q=some (bU fc)) (qe:aX.shut q=false):
 ck G (bb Tryz.prog) g_ [] xy s (fun ex ax=>ex= .normal/\ax.F 15= .int .i64 (kE i)/\∃gO,aX.next<=gO/\ax.h=⟨aF aX.cells q (some (bU (fc.set i g))),aX.shut,gO,aX.bm⟩):=by
 have b4:IntKind.i64.wrap (Z i+Z n)=Z (i+n):=eH (by omega)
 have dd:IntKind.i64.wrap (Z (i+n) - Z 1)=Z (i+n - 1):=dp (by omega) (by omega)
 have dz:IntKind.i64.wrap (Z (i+n) - Z 2)=Z (i+n - 2):=dp (by omega) (by omega)
 have mK:IntKind.i64.wrap (Z n - Z 1)=Z (n - 1):=dp (by omega) (by omega)
 have mL:IntKind.i64.wrap (Z n - Z 2)=Z (n - 2):=dp (by omega) (by omega)
 have mM:IntKind.i64.wrap (Z (i+n)+Z 1)=Z (i+n+1):=eH (by omega)
 have mN:IntKind.i64.wrap (Z i - Z 1)=kE i:=l7 (by omega)
 have mO:=jQ (show i+n<cD.length by omega)
 have mP:=jQ (show i+n - 1<cD.length by omega)
 have mQ:=jQ (show i+n - 2<cD.length by omega)
 have mR:=jQ (show n - 1<(ah Y).length by omega)
 have mS:=jQ (show n - 2<(ah Y).length by omega)
 have kb:=jQ (show i<fc.length by omega)
 have mT:=ko (show 0<cD.length by omega)
 have fb:=ko (show 0<(ah Y).length by omega)
 have l':=ko (show 0<fc.length by omega)
 have ks:r<s.h.next+2:=by omega
 have mU:b5<s.h.next+2:=by omega
 have bA:i+n+1 - i=n+1:=by omega
 have eS:i<=i+n+1:=by omega
 have mV:i+n+1<=m+n:=by omega
 generalize aS cD (i+n)=x2 at*
 generalize aS cD (i+n - 1)=x1 at*
 generalize aS cD (i+n - 2)=x0 at*
 generalize aS (ah Y) (n - 1)=y1 at*
 generalize aS (ah Y) (n - 2)=y0 at*
 have st:=oy fc i g
 have mW:g%4294967296=g:=Nat.mod_eq_of_lt (by omega)
 unfold xy
 simp only[pd,i205]
 refine ao [10,11,12,13,14,15,16,76,119] ?_
 intro F
 simp only[an]
 intro a5 bl a9 aY bq bD b9 ea eI
 try simp[aJ,f10,f11,f12,f13,f14,f15] at a5 bl a9 aY bq bD b9 ea eI
 clear f10 f11 f12 f13 f14 f15
 have f10:=a5
 have f11:=bl
 have f12:=a9
 have f13:=aY
 have f14:=bq
 have f15:=bD
 have f16:=b9
 have f76:=ea
 have f119:=eI
 clear a5 bl a9 aY bq bD b9 ea eI
 repeat' (first
  | refine aC ?_
  | ((fail_if_success (refine aT ?_));(fail_if_success (refine aU ?_));refine aO ?_)
  | ((first|(refine aD cr ?_;simp(disch:=omega) [b4,dd,dz,mK,mL,mM,mN,mO,mP,mQ,mR,mS,ll,fG,eW,mT,fb,k1,ks,mU,bA,eS,mV,bg,pg,l',qe,kb,st,g9,mW,fQ,f10,f11,f12,f13,f14,f15,f16,f76,f119];(try(refine⟨by first|decide|rfl,?_⟩)))|(refine aM ?_;simp(disch:=omega) [b4,dd,dz,mK,mL,mM,mN,mO,mP,mQ,mR,mS,ll,fG,eW,mT,fb,k1,ks,mU,bA,eS,mV,bg,pg,l',qe,kb,st,g9,mW,fQ,f10,f11,f12,f13,f14,f15,f16,f76,f119]));(try(refine ao [10,11,12,13,14,15,16,76,119] ?_;intro F;simp only[an];intro a5 bl a9 aY bq bD b9 ea eI;simp(disch:=omega) [b4,dd,dz,mK,mL,mM,mN,mO,mP,mQ,mR,mS,ll,fG,eW,mT,fb,k1,ks,mU,bA,eS,mV,bg,pg,l',qe,kb,st,g9,mW,fQ,f10,f11,f12,f13,f14,f15,f16,f76,f119] at a5 bl a9 aY bq bD b9 ea eI;clear f10 f11 f12 f13 f14 f15 f16 f76 f119;have f10:=a5;have f11:=bl;have f12:=a9;have f13:=aY;have f14:=bq;have f15:=bD;have f16:=b9;have f76:=ea;have f119:=eI;clear a5 bl a9 aY bq bD b9 ea eI)))
  | (refine aL _ (by simp(disch:=omega) [b4,dd,dz,mK,mL,mM,mN,mO,mP,mQ,mR,mS,ll,fG,eW,mT,fb,k1,ks,mU,bA,eS,mV,bg,pg,l',qe,kb,st,g9,mW,fQ,f10,f11,f12,f13,f14,f15,f16,f76,f119];rfl) (fun I=>?_) (fun I=>?_)<;>first|(exfalso;simp(disch:=omega) [b4,dd,dz,mK,mL,mM,mN,mO,mP,mQ,mR,mS,ll,fG,eW,mT,fb,k1,ks,mU,bA,eS,mV,bg,pg,l',qe,kb,st,g9,mW,fQ] at I;done)|(exfalso;simp at I;omega)|(simp at I))
  | ((first|refine aH ?_|refine aQ ?_);simp(disch:=omega) [b4,dd,dz,mK,mL,mM,mN,mO,mP,mQ,mR,mS,ll,fG,eW,mT,fb,k1,ks,mU,bA,eS,mV,bg,pg,l',qe,kb,st,g9,mW,fQ,f10,f11,f12,f13,f14,f15,f16,f76,f119]))
end
section
attribute [local irreducible] ck
attribute [local simp] ed ef dm xh xi xj xk xl xm u' va
theorem RW {m n Y b5 r q i ss g:Nat} {s:a'} {cD fc:List Nat} {aX aW:aA} (dP:2<=n) (nA:m+n<=10000001) (g9:i<m) (pf:(ah Y).length=n) (l_:cD.length=m+n) (fQ:fc.length=m)
 (f10:s.F 10=bt ss) (f11:s.F 11= .ref b5 0 n n) (f12:s.F 12= .ref r 0 (m+n) (m+n)) (f13:s.F 13=bt n) (f14:s.F 14= .ref q 0 m m) (f15:s.F 15=bt i)
 (fG:s.h.cells r=some (bU cD)) (eW:s.h.cells b5=some (bU (ah Y))) (k1:s.h.shut r=false) (xC:r<s.h.next) (xD:b5<s.h.next)
 (ll:s7 [bM (aS cD (i+n)),bM (aS cD (i+n - 1)),bM (aS cD (i+n - 2)),bM (aS (ah Y) (n - 1)),bM (aS (ah Y) (n - 2))]=some (fj (g+1))) (bp:g+1<4294967296)
 (bg:fi G (bb Tryz.prog) g_ [] (.fn 262) [.ref r i (n+1) (m+n - i),.ref b5 0 n n,fj (g+1)] ⟨s.h.cells,s.h.shut,s.h.next+2+32+10,s.h.bm⟩=some (.bool true,aX))
 (WL:r<aX.next) (WM:b5<aX.next) {nz:List Nat} (RX:nz.length=m+n) (tp:aX.cells r=some (bU nz)) (tq:aX.shut r=false)
 (bT:fi G (bb Tryz.prog) g_ [] (.fn 263) [.ref r i (n+1) (m+n - i),.ref b5 0 n n] ⟨aX.cells,aX.shut,aX.next+3+9,aX.bm⟩=some (.ch [],aW))
 (qf:aW.cells q=some (bU fc)) (qg:aW.shut q=false):
 ck G (bb Tryz.prog) g_ [] xy s (fun ex ax=>ex= .normal/\ax.F 15= .int .i64 (kE i)/\∃gO,aW.next<=gO/\ax.h=⟨aF aW.cells q (some (bU (fc.set i g))),aW.shut,gO,aW.bm⟩):=by
 have b4:IntKind.i64.wrap (Z i+Z n)=Z (i+n):=eH (by omega)
 have dd:IntKind.i64.wrap (Z (i+n) - Z 1)=Z (i+n - 1):=dp (by omega) (by omega)
 have dz:IntKind.i64.wrap (Z (i+n) - Z 2)=Z (i+n - 2):=dp (by omega) (by omega)
 have mK:IntKind.i64.wrap (Z n - Z 1)=Z (n - 1):=dp (by omega) (by omega)
 have mL:IntKind.i64.wrap (Z n - Z 2)=Z (n - 2):=dp (by omega) (by omega)
 have mM:IntKind.i64.wrap (Z (i+n)+Z 1)=Z (i+n+1):=eH (by omega)
 have mN:IntKind.i64.wrap (Z i - Z 1)=kE i:=l7 (by omega)
 have mO:=jQ (show i+n<cD.length by omega)
 have mP:=jQ (show i+n - 1<cD.length by omega)
 have mQ:=jQ (show i+n - 2<cD.length by omega)
 have mR:=jQ (show n - 1<(ah Y).length by omega)
 have mS:=jQ (show n - 2<(ah Y).length by omega)
 have kb:=jQ (show i<fc.length by omega)
 have mT:=ko (show 0<cD.length by omega)
 have fb:=ko (show 0<(ah Y).length by omega)
 have l':=ko (show 0<fc.length by omega)
 have ks:r<s.h.next+2:=by omega
 have mU:b5<s.h.next+2:=by omega
 have bA:i+n+1 - i=n+1:=by omega
 have eS:i<=i+n+1:=by omega
 have mV:i+n+1<=m+n:=by omega
 generalize aS cD (i+n)=x2 at*
 generalize aS cD (i+n - 1)=x1 at*
 generalize aS cD (i+n - 2)=x0 at*
 generalize aS (ah Y) (n - 1)=y1 at*
 generalize aS (ah Y) (n - 2)=y0 at*
 have st:=oy fc i g
 have mW:g%4294967296=g:=Nat.mod_eq_of_lt (by omega)
 unfold xy
 simp only[pd,i205]
 have tr:r<aX.next+3:=by omega
 have ts:b5<aX.next+3:=by omega
 have tt:=ko (show 0<nz.length by omega)
 have tu:(g+1+18446744073709551615)%18446744073709551616=g:=by omega
 refine ao [10,11,12,13,14,15,16,76,119] ?_
 intro F
 simp only[an]
 intro a5 bl a9 aY bq bD b9 ea eI
 try simp[aJ,f10,f11,f12,f13,f14,f15] at a5 bl a9 aY bq bD b9 ea eI
 clear f10 f11 f12 f13 f14 f15
 have f10:=a5
 have f11:=bl
 have f12:=a9
 have f13:=aY
 have f14:=bq
 have f15:=bD
 have f16:=b9
 have f76:=ea
 have f119:=eI
 clear a5 bl a9 aY bq bD b9 ea eI
 repeat' (first
  | refine aC ?_
  | ((fail_if_success (refine aT ?_));(fail_if_success (refine aU ?_));refine aO ?_)
  | ((first|(refine aD cr ?_;simp(disch:=omega) [b4,dd,dz,mK,mL,mM,mN,mO,mP,mQ,mR,mS,ll,fG,eW,mT,fb,k1,ks,mU,bA,eS,mV,bg,bT,tp,tt,tq,tr,ts,qf,l',qg,kb,st,g9,mW,fQ,tu,f10,f11,f12,f13,f14,f15,f16,f76,f119];(try(refine⟨by first|decide|rfl,?_⟩)))|(refine aM ?_;simp(disch:=omega) [b4,dd,dz,mK,mL,mM,mN,mO,mP,mQ,mR,mS,ll,fG,eW,mT,fb,k1,ks,mU,bA,eS,mV,bg,bT,tp,tt,tq,tr,ts,qf,l',qg,kb,st,g9,mW,fQ,tu,f10,f11,f12,f13,f14,f15,f16,f76,f119]));(try(refine ao [10,11,12,13,14,15,16,76,119] ?_;intro F;simp only[an];intro a5 bl a9 aY bq bD b9 ea eI;simp(disch:=omega) [b4,dd,dz,mK,mL,mM,mN,mO,mP,mQ,mR,mS,ll,fG,eW,mT,fb,k1,ks,mU,bA,eS,mV,bg,bT,tp,tt,tq,tr,ts,qf,l',qg,kb,st,g9,mW,fQ,tu,f10,f11,f12,f13,f14,f15,f16,f76,f119] at a5 bl a9 aY bq bD b9 ea eI;clear f10 f11 f12 f13 f14 f15 f16 f76 f119;have f10:=a5;have f11:=bl;have f12:=a9;have f13:=aY;have f14:=bq;have f15:=bD;have f16:=b9;have f76:=ea;have f119:=eI;clear a5 bl a9 aY bq bD b9 ea eI)))
  | (refine aL _ (by simp(disch:=omega) [b4,dd,dz,mK,mL,mM,mN,mO,mP,mQ,mR,mS,ll,fG,eW,mT,fb,k1,ks,mU,bA,eS,mV,bg,bT,tp,tt,tq,tr,ts,qf,l',qg,kb,st,g9,mW,fQ,tu,f10,f11,f12,f13,f14,f15,f16,f76,f119];rfl) (fun I=>?_) (fun I=>?_)<;>first|(exfalso;simp(disch:=omega) [b4,dd,dz,mK,mL,mM,mN,mO,mP,mQ,mR,mS,ll,fG,eW,mT,fb,k1,ks,mU,bA,eS,mV,bg,bT,tp,tt,tq,tr,ts,qf,l',qg,kb,st,g9,mW,fQ,tu] at I;done)|(exfalso;simp at I;omega)|(simp at I))
  | ((first|refine aH ?_|refine aQ ?_);simp(disch:=omega) [b4,dd,dz,mK,mL,mM,mN,mO,mP,mQ,mR,mS,ll,fG,eW,mT,fb,k1,ks,mU,bA,eS,mV,bg,bT,tp,tt,tq,tr,ts,qf,l',qg,kb,st,g9,mW,fQ,tu,f10,f11,f12,f13,f14,f15,f16,f76,f119]))
end
section
attribute [local irreducible] ck
attribute [local simp] ed ef dm xh xi xj xk xl xm u' va
theorem RY:br Tryz.prog G 205 (cd (fun z:Nat × Nat=>((ah z.1).length<=10000000/\(ah z.2).length<=10000000)/\¬vl z) (fun z=>[aw z.1,aw z.2]) (fun z=>if z.2=0 then .ch [.sl [] false,.sl [] false,bt 3] else .ch [aw (z.1/z.2),aw (z.1%z.2),bt 0])):=by
 refine cG mixed QD zD fun z aP=>?_
 obtain⟨a,b⟩:=z
 obtain⟨⟨cE,H0⟩,bc⟩:=aP
 simp only[vl,not_or,Nat.not_lt,Nat.not_le] at cE H0 bc|-
 obtain⟨c_,H2,fR⟩:=bc
 rw[if_neg c_]
 unfold i205
 obtain⟨n,ar⟩:∃n,(ah b).length=n:=⟨_,rfl⟩
 obtain⟨A,aI⟩:∃A,(ah a).length=A:=⟨_,rfl⟩
 rw[ar] at fR H0
 rw[aI] at cE
 obtain⟨t,a7⟩:∃t,t=b/ay (n - 1):=⟨_,rfl⟩
 obtain⟨t9,H3,tn,rC,pf⟩:=RR (by omega) ar a7
 have rE:=Qo t t9 (args:=[bM t]) (by simp)
 obtain⟨ss,aG⟩:∃ss,32 - dJ t=ss:=⟨_,rfl⟩
 rw[aG] at H3 tn rC pf rE
 have cR:=(kj (show n - 1<(ah b).length by omega)).symm
 rw[fV,<-a7,Nat.mod_eq_of_lt t9] at cR
 have dD:a≠0:=by omega
 have dC:=u0 (a:=a) (b:=b) (e:=false) (e':=false) (by omega) (by omega)
 have eg:(dV a b<Z 0)=False:=by
  simp only[dV,if_neg (Nat.not_lt.2 H2),Z];split<;>simp
 generalize dV a b=w1 at*
 have gC:ah b≠ []:=fun h=>c_ (jO.1 h)
 have m5:n≠0:=by omega
 have kt:n≠1:=by omega
 obtain⟨v1,ab,aq,AU⟩:=Hc [] {cells:=fun _=>none,shut:=fun _=>false,next:=28} (fun _=>rfl) (a:=b) (n:=ss) (e:=false) c_ (by omega) (by omega)
 obtain⟨b5,rfl,wV,AV⟩:=AU.val.resolve_left fun h=>by have:=congrArg List.length h.1;simp only[List.length_nil] at this;omega
 rw[pf] at aq
 obtain⟨v2,h2,aB,xE⟩:=Hc [] {cells:=ab.cells,shut:=ab.shut,next:=ab.next+4,bm:=ab.bm} (fun j=>by show ab.shut j=false;rw[AU.kept.shut]) (a:=a) (n:=ss) (e:=false) dD (by omega) (by omega)
 obtain⟨eO,lL⟩:∃eO,a*2^ss=eO:=⟨_,rfl⟩
 obtain⟨Y,l3⟩:∃Y,b*2^ss=Y:=⟨_,rfl⟩
 obtain⟨d1,d2,d3⟩:=RS aI H3 lL dD
 have WN:=mo.2 dD
 rw[lL] at xE
 rw[l3] at AV tn rC pf
 obtain⟨dY,rfl,om,vc⟩:=xE.val.resolve_left fun h=>by have:=congrArg List.length h.1;simp only[List.length_nil] at this;omega
 obtain⟨vm,RZ⟩:∃vm,(ah eO).length=vm:=⟨_,rfl⟩
 rw[RZ] at aB d1 d2
 have R0:eU h2 b5 (ah Y):=(AV.bump (ab.next+4) ab.bm (by omega)).kept xE.kept
 have bP:dY≠b5:=by have:=AV.et;simp only at om;omega
 refine ao [0,1,4,5,6,7,8,10,11,12,13,14,15,16,17,21,27,61,76,119] fun F=>?_
 simp only[an]
 intro f0 f1 f4 f5 f6 f7 f8 f10 f11 f12 f13 f14 f15 f16 f17 f21 f27 f61 f76 f119
 simp[bj] at f0 f1 f4 f5 f6 f7 f8 f10 f11 f12 f13 f14 f15 f16 f17 f21 f27 f61 f76 f119
 repeat' (first
  | refine aC ?_
  | ((fail_if_success (refine aT ?_));(fail_if_success (refine aU ?_));refine aO ?_)
  | ((first|(refine aD cr ?_;simp(disch:=omega) [aq,aB,dC,eg,gC,ar,aI,m5,kt,cR,rE,f0,f1,f4,f5,f6,f7,f8,f10,f11,f12,f13,f14,f15,f16,f17,f21,f27,f61,f76,f119];(try(refine⟨by first|decide|rfl,?_⟩)))|(refine aM ?_;simp(disch:=omega) [aq,aB,dC,eg,gC,ar,aI,m5,kt,cR,rE,f0,f1,f4,f5,f6,f7,f8,f10,f11,f12,f13,f14,f15,f16,f17,f21,f27,f61,f76,f119]));(try(refine ao [0,1,4,5,6,7,8,10,11,12,13,14,15,16,17,21,27,61,76,119] ?_;intro F;simp only[an];intro U aa ad ae ai au az a5 bl a9 aY bq bD b9 cB d_ bL fE ea eI;simp(disch:=omega) [aq,aB,dC,eg,gC,ar,aI,m5,kt,cR,rE,f0,f1,f4,f5,f6,f7,f8,f10,f11,f12,f13,f14,f15,f16,f17,f21,f27,f61,f76,f119] at U aa ad ae ai au az a5 bl a9 aY bq bD b9 cB d_ bL fE ea eI;clear f0 f1 f4 f5 f6 f7 f8 f10 f11 f12 f13 f14 f15 f16 f17 f21 f27 f61 f76 f119;have f0:=U;have f1:=aa;have f4:=ad;have f5:=ae;have f6:=ai;have f7:=au;have f8:=az;have f10:=a5;have f11:=bl;have f12:=a9;have f13:=aY;have f14:=bq;have f15:=bD;have f16:=b9;have f17:=cB;have f21:=d_;have f27:=bL;have f61:=fE;have f76:=ea;have f119:=eI;clear U aa ad ae ai au az a5 bl a9 aY bq bD b9 cB d_ bL fE ea eI)))
  | (refine aL _ (by simp(disch:=omega) [aq,aB,dC,eg,gC,ar,aI,m5,kt,cR,rE,f0,f1,f4,f5,f6,f7,f8,f10,f11,f12,f13,f14,f15,f16,f17,f21,f27,f61,f76,f119];rfl) (fun I=>?_) (fun I=>?_)<;>first|(exfalso;simp(disch:=omega) [aq,aB,dC,eg,gC,ar,aI,m5,kt,cR,rE] at I;done)|(exfalso;simp at I;omega)|(simp at I))
  | ((first|refine aH ?_|refine aQ ?_);simp(disch:=omega) [aq,aB,dC,eg,gC,ar,aI,m5,kt,cR,rE,f0,f1,f4,f5,f6,f7,f8,f10,f11,f12,f13,f14,f15,f16,f17,f21,f27,f61,f76,f119]))
 refine oh (fun k s=>k<=1/\HX (A+1 - k) eO Y b5 s) (HX (A+1) eO Y b5) (fun _=>False) (A+1 - vm) ?_ ?_ ?_ (fun _ _ h=>h.elim)
 · refine⟨by omega,fun j=>?_,R0.bump _ _ (by omega),dY,ah eO,?_,by omega,dm eO,dO eO,bP,vc.bump _ _ (by omega)⟩
   · show h2.shut j=false;rw[xE.kept.shut];show ab.shut j=false;rw[AU.kept.shut]
   · rw[show A+1 -(A+1 - vm)=vm by omega];exact f12
 · rintro k s aE ⟨um,bZ,W,r,cD,nc,l_,vn,xs,bP,V⟩
   replace f0:=(aE 0 rfl).trans f0;replace f1:=(aE 1 rfl).trans f1;replace f11:=(aE 11 rfl).trans f11
   clear f12
   have fG:=V.cells
   have k1:=bZ r
   cases k with
   | zero=>
     have f12:=nc
     refine ao [0,1,11,12,61] ?_
     intro F
     simp only[an]
     intro U aa bl a9 fE
     try simp[aJ,f0,f1,f11,f12] at U aa bl a9 fE
     clear f0 f1 f11 f12
     have f0:=U
     have f1:=aa
     have f11:=bl
     have f12:=a9
     have f61:=fE
     clear U aa bl a9 fE
     repeat' (first
      | refine aC ?_
      | ((fail_if_success (refine aT ?_));(fail_if_success (refine aU ?_));refine aO ?_)
      | ((first|(refine aD cr ?_;simp(disch:=omega) [aI,f0,f1,f11,f12,f61];(try(refine⟨by first|decide|rfl,?_⟩)))|(refine aM ?_;simp(disch:=omega) [aI,f0,f1,f11,f12,f61]));(try(refine ao [0,1,11,12,61] ?_;intro F;simp only[an];intro U aa bl a9 fE;simp(disch:=omega) [aI,f0,f1,f11,f12,f61] at U aa bl a9 fE;clear f0 f1 f11 f12 f61;have f0:=U;have f1:=aa;have f11:=bl;have f12:=a9;have f61:=fE;clear U aa bl a9 fE)))
      | (refine aL _ (by simp(disch:=omega) [aI,f0,f1,f11,f12,f61];rfl) (fun I=>?_) (fun I=>?_)<;>first|(exfalso;simp(disch:=omega) [aI] at I;done)|(exfalso;simp at I;omega)|(simp at I))
      | ((first|refine aH ?_|refine aQ ?_);simp(disch:=omega) [aI,f0,f1,f11,f12,f61]))
     exact⟨bZ,W.bump _ _ (by omega),r,cD,f12,l_,vn,xs,bP,V.bump _ _ (by omega)⟩
   | succ k=>
     obtain rfl:k=0:=by omega
     rw[show A+1 -(0+1)=A by omega] at nc l_
     have f12:=nc
     have ap:=fun q m p=>RT (r:=q) (h:=⟨s.h.cells,s.h.shut,m,p⟩) (v:=0) (e:=true) k1 fG l_ (by omega) (by omega)
     refine ao [0,1,11,12,61] ?_
     intro F
     simp only[an]
     intro U aa bl a9 fE
     try simp[aJ,f0,f1,f11,f12] at U aa bl a9 fE
     clear f0 f1 f11 f12
     have f0:=U
     have f1:=aa
     have f11:=bl
     have f12:=a9
     have f61:=fE
     clear U aa bl a9 fE
     repeat' (first
      | refine aC ?_
      | ((fail_if_success (refine aT ?_));(fail_if_success (refine aU ?_));refine aO ?_)
      | ((first|(refine aD cr ?_;simp(disch:=omega) [aI,ap,f0,f1,f11,f12,f61];(try(refine⟨by first|decide|rfl,?_⟩)))|(refine aM ?_;simp(disch:=omega) [aI,ap,f0,f1,f11,f12,f61]));(try(refine ao [0,1,11,12,61] ?_;intro F;simp only[an];intro U aa bl a9 fE;simp(disch:=omega) [aI,ap,f0,f1,f11,f12,f61] at U aa bl a9 fE;clear f0 f1 f11 f12 f61;have f0:=U;have f1:=aa;have f11:=bl;have f12:=a9;have f61:=fE;clear U aa bl a9 fE)))
      | (refine aL _ (by simp(disch:=omega) [aI,ap,f0,f1,f11,f12,f61];rfl) (fun I=>?_) (fun I=>?_)<;>first|(exfalso;simp(disch:=omega) [aI,ap] at I;done)|(exfalso;simp at I;omega)|(simp at I))
      | ((first|refine aH ?_|refine aQ ?_);simp(disch:=omega) [aI,ap,f0,f1,f11,f12,f61]))
     refine⟨bZ,⟨?_,W.c1,by have:=W.et;show b5<s.h.next+5+2+2;omega⟩,s.h.next+5+2,cD++ [0],by simp[aF],by simp;omega,by rw[lO];simp[val];exact vn,nK.2 ⟨xs,ld.2 ⟨by decide,Small.nil⟩⟩,by have:=W.et;omega,⟨by simp[aF],bZ _,by show s.h.next+5+2<s.h.next+5+2+2;omega⟩⟩
     show aF (aF s.h.cells r none) (s.h.next+5+2) _ b5=_
     have:=W.et
     simp only[aF]
     rw[if_neg (by omega),if_neg (fun h=>bP h.symm)]
     exact W.cells
 · rintro s aE ⟨bZ,W,r,cD,nc,l_,vn,xs,bP,V⟩
   replace f0:=(aE 0 rfl).trans f0;replace f1:=(aE 1 rfl).trans f1;replace f10:=(aE 10 rfl).trans f10;replace f11:=(aE 11 rfl).trans f11
   clear f12
   have WO:n<=A:=by rw[<-ar,<-aI];exact fW H2
   obtain⟨m,hm⟩:∃m,A+1=m+n:=⟨A+1 - n,by omega⟩
   rw[hm] at nc l_
   have f12:=nc
   have hw:IntKind.i64.wrap (Z (m+n) - Z n)=Z m:=by rw[dp (by omega) (by omega)];rw[Nat.add_sub_cancel]
   have rh:IntKind.i64.wrap (Z m - Z 1)=kE m:=l7 (by omega)
   have tv:Z m*4<=140737488355328:=by simp only[Z];omega
   refine ao [10,11,12,13,14,15,76] ?_
   intro F
   simp only[an]
   intro a5 bl a9 aY bq bD ea
   try simp[aJ,f0,f1,f10,f11,f12] at a5 bl a9 aY bq bD ea
   clear f0 f1 f10 f11 f12
   have f10:=a5
   have f11:=bl
   have f12:=a9
   have f13:=aY
   have f14:=bq
   have f15:=bD
   have f76:=ea
   clear a5 bl a9 aY bq bD ea
   repeat' (first
    | refine aC ?_
    | ((fail_if_success (refine aT ?_));(fail_if_success (refine aU ?_));refine aO ?_)
    | ((first|(refine aD cr ?_;simp(disch:=omega) [hw,rh,tv,g6,f10,f11,f12,f13,f14,f15,f76];(try(refine⟨by first|decide|rfl,?_⟩)))|(refine aM ?_;simp(disch:=omega) [hw,rh,tv,g6,f10,f11,f12,f13,f14,f15,f76]));(try(refine ao [10,11,12,13,14,15,76] ?_;intro F;simp only[an];intro a5 bl a9 aY bq bD ea;simp(disch:=omega) [hw,rh,tv,g6,f10,f11,f12,f13,f14,f15,f76] at a5 bl a9 aY bq bD ea;clear f10 f11 f12 f13 f14 f15 f76;have f10:=a5;have f11:=bl;have f12:=a9;have f13:=aY;have f14:=bq;have f15:=bD;have f76:=ea;clear a5 bl a9 aY bq bD ea)))
    | (refine aL _ (by simp(disch:=omega) [hw,rh,tv,g6,f10,f11,f12,f13,f14,f15,f76];rfl) (fun I=>?_) (fun I=>?_)<;>first|(exfalso;simp(disch:=omega) [hw,rh,tv,g6] at I;done)|(exfalso;simp at I;omega)|(simp at I))
    | ((first|refine aH ?_|refine aQ ?_);simp(disch:=omega) [hw,rh,tv,g6,f10,f11,f12,f13,f14,f15,f76]))
   obtain⟨q,bc⟩:∃q,q=s.h.next+3+4:=⟨_,rfl⟩
   rw[<-bc] at f14
   have rF:q≠r:=by have:=V.et;omega
   have H4:q≠b5:=by have:=W.et;omega
   have qd:0<Y:=by have:=g3 n;omega
   refine oh (fun k s=>k<=m/\HU m n eO Y b5 r q k s/\s.F 15= .int .i64 (kE k)) (HU m n eO Y b5 r q 0) (fun _=>False) m ?_ ?_ ?_ (fun _ _ h=>h.elim)
   · have wn:=W.et
     have WQ:=V.et
     refine⟨Nat.le_refl _,⟨bZ,?_,cD,List.replicate m 0,l_,by simp,xs,p2 _,?_,?_,fun j _=>wS _ _,by rw[sF,Nat.zero_mul,Nat.zero_add];exact vn,?_⟩,f15⟩
     · refine⟨?_,W.c1,by show b5<s.h.next+3+6+4;omega⟩
       show aF s.h.cells (s.h.next+3+4) _ b5=_
       simp only[aF]
       rw[if_neg (by omega)]
       exact W.cells
     · refine⟨?_,V.c1,by show r<s.h.next+3+6+4;omega⟩
       show aF s.h.cells (s.h.next+3+4) _ r=_
       simp only[aF]
       rw[if_neg (by omega)]
       exact V.cells
     · refine⟨?_,bZ _,by show q<s.h.next+3+6+4;omega⟩
       show aF s.h.cells (s.h.next+3+4) _ q=_
       rw[bc]
       simp only[aF,if_true]
     · rw[vn]
       have e:ay m*ay n=ay A*4294967296:=by rw[<-gw,<-hm,ee]
       have aB:=Nat.mul_le_mul_left (ay m) rC
       rw[e,Nat.mul_left_comm] at aB
       omega
   · rintro k s aE ⟨WR,⟨bZ,W,cD,fc,l_,fQ,xs,vo,V,la,vp,aR,bO⟩,AW⟩
     replace f10:=(aE 10 rfl).trans f10;replace f11:=(aE 11 rfl).trans f11;replace f12:=(aE 12 rfl).trans f12;replace f13:=(aE 13 rfl).trans f13;replace f14:=(aE 14 rfl).trans f14
     clear f15
     have eW:=W.cells
     have fb:=ko (show 0<(ah Y).length by omega)
     cases k with
     | zero=>
       have f15:=AW
       refine ao [10,11,12,13,14,15,16,76,119] ?_
       intro F
       simp only[an]
       intro a5 bl a9 aY bq bD b9 ea eI
       try simp[aJ,f10,f11,f12,f13,f14,f15] at a5 bl a9 aY bq bD b9 ea eI
       clear f10 f11 f12 f13 f14 f15
       have f10:=a5
       have f11:=bl
       have f12:=a9
       have f13:=aY
       have f14:=bq
       have f15:=bD
       have f16:=b9
       have f76:=ea
       have f119:=eI
       clear a5 bl a9 aY bq bD b9 ea eI
       rw[qX] at f15
       repeat' (first
        | refine aC ?_
        | ((fail_if_success (refine aT ?_));(fail_if_success (refine aU ?_));refine aO ?_)
        | ((first|(refine aD cr ?_;simp(disch:=omega) [kR,f10,f11,f12,f13,f14,f15,f16,f76,f119];(try(refine⟨by first|decide|rfl,?_⟩)))|(refine aM ?_;simp(disch:=omega) [kR,f10,f11,f12,f13,f14,f15,f16,f76,f119]));(try(refine ao [10,11,12,13,14,15,16,76,119] ?_;intro F;simp only[an];intro a5 bl a9 aY bq bD b9 ea eI;simp(disch:=omega) [kR,f10,f11,f12,f13,f14,f15,f16,f76,f119] at a5 bl a9 aY bq bD b9 ea eI;clear f10 f11 f12 f13 f14 f15 f16 f76 f119;have f10:=a5;have f11:=bl;have f12:=a9;have f13:=aY;have f14:=bq;have f15:=bD;have f16:=b9;have f76:=ea;have f119:=eI;clear a5 bl a9 aY bq bD b9 ea eI)))
        | (refine aL _ (by simp(disch:=omega) [kR,f10,f11,f12,f13,f14,f15,f16,f76,f119];rfl) (fun I=>?_) (fun I=>?_)<;>first|(exfalso;simp(disch:=omega) [kR] at I;done)|(exfalso;simp at I;omega)|(simp at I))
        | ((first|refine aH ?_|refine aQ ?_);simp(disch:=omega) [kR,f10,f11,f12,f13,f14,f15,f16,f76,f119]))
       exact⟨bZ,W.bump _ _ (by omega),cD,fc,l_,fQ,xs,vo,V.bump _ _ (by omega),la.bump _ _ (by omega),vp,aR,bO⟩
     | succ i=>
       rw[sI] at AW
       have f15:=AW
       have g9:i<m:=by omega
       obtain⟨oB,AG,R1,R2,R3,WS⟩:=RU xs (by omega) tn rC bO
       have dR:=xs.aS (i+n)
       have cP:=xs.aS (i+n - 1)
       have sr:=xs.aS (i+n - 2)
       have R4:=(dO Y).aS (n - 1)
       have R5:=(dO Y).aS (n - 2)
       have ll:=Qq (aS cD (i+n),aS cD (i+n - 1),aS cD (i+n - 2),aS (ah Y) (n - 1),aS (ah Y) (n - 2)) ⟨AG,cP,sr,R4,R5,R1⟩ (args:=[bM (aS cD (i+n)),bM (aS cD (i+n - 1)),bM (aS cD (i+n - 2)),bM (aS (ah Y) (n - 1)),bM (aS (ah Y) (n - 2))]) (by simp)
       simp only at ll
       have WT:=G4 (x2:=aS cD (i+n)) (x1:=aS cD (i+n - 1)) (x0:=aS cD (i+n - 2)) (y1:=aS (ah Y) (n - 1)) (y0:=aS (ah Y) (n - 2))
       generalize lD (aS cD (i+n)) (aS cD (i+n - 1)) (aS cD (i+n - 2)) (aS (ah Y) (n - 1)) (aS (ah Y) (n - 2))=g at*
       have fG:=V.cells
       have k1:=bZ r
       obtain⟨nS,aX,bg,nz,db,rfl,RX,AX,H5,td,R6,nQ,nR⟩:=Rx [] ⟨s.h.cells,s.h.shut,s.h.next+2+32+10,s.h.bm⟩ (id:=r) (ry:=b5) (off:=i) (n:=n) (cap:=m+n - i) (Yv:=Y) (g:=g) (V.bump _ _ (by omega)) (W.bump _ _ (by omega)) (Ne.symm bP) pf (by omega) xs (by omega) (by omega) (by omega)
       have R7:val nz<ay i*ay (n+1):=by
        rw[<-gw];exact xB AX (fun j aZ=>by rw[H5 j (.inr (by omega))];exact HT xs oB (by omega))
       have R8:val cD<ay i*ay (n+1):=by rw[<-gw];exact oB
       obtain⟨R9,R_,H6,WU⟩:=RJ (g3 i) qd rfl R2 R3 R6 td R7 R8
       generalize val cD/ay i/Y=Q at*
       have et:=la.et
       have xC:=V.et
       have xD:=W.et
       have pg:aX.cells q=some (bU fc):=by rw[nR.cells q (by show q<s.h.next+2+32+10;omega) rF];exact la.cells
       have l':=ko (show 0<fc.length by omega)
       have xF:∀j,aX.shut j=false:=fun j=>by rw[nR.shut];exact bZ j
       have qe:=xF q
       have H7:∀v,val (fc.set i v)=val fc+ay i*v:=fun v=>by
        have:=nM v (show i<fc.length by omega)
        rw[vp i (by omega),Nat.mul_zero,Nat.add_zero] at this;exact this
       have R':=nR.next
       simp only at R'
       rcases (show db=0\/db=1 by omega) with rfl|rfl
       · obtain⟨rfl,ak⟩:=R9 rfl
         obtain⟨AY,AZ⟩:=HY (H7 g) aR ak H6
         have Sa:=nR.vec (W.bump (s.h.next+2+32+10) s.h.bm (by omega)) (Ne.symm bP)
         have A0:=nR.vec (la.bump (s.h.next+2+32+10) s.h.bm (by omega)) rF
         have A1:=RV (by omega) (by omega) g9 pf l_ fQ f10 f11 f12 f13 f14 f15 fG eW k1 xC xD ll (by omega) (bg.trans (by simp)) pg qe
         refine A1.mono fun ex ax ⟨hex,A2,gO,wZ,cY⟩=>?_
         subst hex
         show ∃j,_
         refine⟨i,Nat.lt_succ_self i,by omega,?_,A2⟩
         refine⟨?_,?_,nz,fc.set i g,by omega,by rw[List.length_set];exact fQ,AX,nN vo (by omega),?_,?_,fun j aZ=>by rw[oo _ _ (by omega),if_neg (by omega)];exact vp j (by omega),AY,AZ⟩
         · rw[cY];exact xF
         · rw[cY];exact Sa.off (Ne.symm H4) _ _ _ (by omega)
         · rw[cY];exact nQ.off (Ne.symm rF) _ _ _ (by omega)
         · rw[cY];exact A0.put _ _ _ (by omega)
       · obtain⟨rfl,ak⟩:=R_ rfl
         have H8:=nR.vec (W.bump (s.h.next+2+32+10) s.h.bm (by omega)) (Ne.symm bP)
         obtain⟨v4,aW,bT,uy,d4,rfl,WV,H9,Sb,Sc,Sd,vq⟩:=Rz [] ⟨aX.cells,aX.shut,aX.next+3+9,aX.bm⟩ (id:=r) (ry:=b5) (off:=i) (n:=n) (cap:=m+n - i) (Yv:=Y) (nQ.bump _ _ (by omega)) (H8.bump _ _ (by omega)) (Ne.symm bP) pf (by omega) AX (by omega) (by omega)
         have Se:val uy<ay i*ay (n+1):=by
          rw[<-gw];exact xB H9 (fun j aZ=>by rw[Sb j (.inr (by omega)),H5 j (.inr (by omega))];exact HT xs oB (by omega))
         have Sf:=ak (val uy) d4 Sc Se
         have Sg:=vq.next
         simp only at Sg
         have qf:aW.cells q=some (bU fc):=by rw[vq.cells q (by show q<aX.next+3+9;omega) rF];exact pg
         have H_:∀j,aW.shut j=false:=fun j=>by rw[vq.shut];exact xF j
         have qg:=H_ q
         obtain⟨AY,AZ⟩:=HY (H7 Q) aR Sf H6
         have Sh:=vq.vec (H8.bump (aX.next+3+9) aX.bm (by omega)) (Ne.symm bP)
         have A0:=nR.vec (la.bump (s.h.next+2+32+10) s.h.bm (by omega)) rF
         have Si:=vq.vec (A0.bump (aX.next+3+9) aX.bm (by omega)) rF
         have A1:=RW (by omega) (by omega) g9 pf l_ fQ f10 f11 f12 f13 f14 f15 fG eW k1 xC xD ll (by omega) (bg.trans (by simp)) (by omega) (by omega) (show nz.length=m+n by omega) nQ.cells (xF r) bT qf qg
         refine A1.mono fun ex ax ⟨hex,A2,gO,wZ,cY⟩=>?_
         subst hex
         show ∃j,_
         refine⟨i,Nat.lt_succ_self i,by omega,?_,A2⟩
         refine⟨?_,?_,uy,fc.set i Q,by omega,by rw[List.length_set];exact fQ,H9,nN vo (by omega),?_,?_,fun j aZ=>by rw[oo _ _ (by omega),if_neg (by omega)];exact vp j (by omega),AY,AZ⟩
         · rw[cY];exact H_
         · rw[cY];exact Sh.off (Ne.symm H4) _ _ _ (by omega)
         · rw[cY];exact Sd.off (Ne.symm rF) _ _ _ (by omega)
         · rw[cY];exact Si.put _ _ _ (by omega)
   · rintro s aE ⟨bZ,W,cD,fc,l_,fQ,xs,vo,V,la,vp,aR,bO⟩
     replace f10:=(aE 10 rfl).trans f10;replace f11:=(aE 11 rfl).trans f11;replace f12:=(aE 12 rfl).trans f12;replace f13:=(aE 13 rfl).trans f13;replace f14:=(aE 14 rfl).trans f14
     clear f15
     rw[ft,Nat.one_mul] at bO
     obtain⟨H',Sj⟩:val fc=eO/Y/\val cD=eO%Y:=by
      have:eO/Y=val fc/\eO%Y=val cD:=(Nat.div_mod_unique qd).2 ⟨by rw[Nat.mul_comm];omega,bO⟩
      exact⟨this.1.symm,this.2.symm⟩
     have Ia:eO/Y=a/b:=by rw[<-lL,<-l3];exact Nat.mul_div_mul_right _ _ (Nat.pow_pos (by decide))
     have Sk:eO%Y/2^ss=a%b:=by
      rw[<-lL,<-l3,Nat.mul_mod_mul_right];exact Nat.mul_div_cancel _ (Nat.pow_pos (by decide))
     have Sl:val fc=a/b:=H'.trans Ia
     clear H' Ia
     obtain⟨pc,cL,dv,A3⟩:=Av [] ⟨s.h.cells,s.h.shut,s.h.next+9,s.h.bm⟩ bZ (q:=q) (o:=fc) (la.bump _ _ (by omega)) vo (by omega) (by omega)
     obtain⟨v6,fo,e8,A4⟩:=Av [] cL (fun j=>by rw[A3.kept.shut];exact bZ j) (q:=r) (o:=cD) ((V.bump (s.h.next+9) s.h.bm (by omega)).kept A3.kept) xs (by omega) (by omega)
     have Ib:=A3.later A4.kept
     rw[Sl] at Ib
     rw[Sj] at A4
     obtain⟨WW,WX,tw⟩:=Ib.outs
     obtain⟨WY,Sm,rG⟩:=A4.outs
     have tx:=rG fo.shut fo.next fo.bm
     have Sn:(ah (eO%Y)).length<=100000000:=by
      have:=fW (Nat.le_of_lt (Nat.mod_lt eO qd))
      omega
     have rH:=GG (eO%Y,ss) ⟨Sn,by simp only;omega⟩ (args:=[cF (ah (eO%Y)) Sm,bt ss]) (by simp)
     simp only[Sk] at rH
     have WZ:=f10
     rw[fQ] at dv
     rw[l_] at e8
     generalize eO%Y=W0 at*
     generalize a/b=W1 at*
     generalize a%b=pG at*
     refine ao [4,5,6,10,12,14] ?_
     intro F
     simp only[an]
     intro ad ae ai a5 a9 bq
     try simp[aJ,f10,f12,f14] at ad ae ai a5 a9 bq
     clear f10 f12 f14
     have f4:=ad
     have f5:=ae
     have f6:=ai
     have f10:=a5
     have f12:=a9
     have f14:=bq
     clear ad ae ai a5 a9 bq
     repeat' (first
      | refine aC ?_
      | ((fail_if_success (refine aT ?_));(fail_if_success (refine aU ?_));refine aO ?_)
      | ((first|(refine aD cr ?_;simp(disch:=omega) [dv,e8,rG,tx,rH,tw,f4,f5,f6,f10,f12,f14];(try(refine⟨by first|decide|rfl,?_⟩)))|(refine aM ?_;simp(disch:=omega) [dv,e8,rG,tx,rH,tw,f4,f5,f6,f10,f12,f14]));(try(refine ao [4,5,6,10,12,14] ?_;intro F;simp only[an];intro ad ae ai a5 a9 bq;simp(disch:=omega) [dv,e8,rG,tx,rH,tw,f4,f5,f6,f10,f12,f14] at ad ae ai a5 a9 bq;clear f4 f5 f6 f10 f12 f14;have f4:=ad;have f5:=ae;have f6:=ai;have f10:=a5;have f12:=a9;have f14:=bq;clear ad ae ai a5 a9 bq)))
      | (refine aL _ (by simp(disch:=omega) [dv,e8,rG,tx,rH,tw,f4,f5,f6,f10,f12,f14];rfl) (fun I=>?_) (fun I=>?_)<;>first|(exfalso;simp(disch:=omega) [dv,e8,rG,tx,rH,tw] at I;done)|(exfalso;simp at I;omega)|(simp at I))
      | ((first|refine aH ?_|refine aQ ?_);simp(disch:=omega) [dv,e8,rG,tx,rH,tw,f4,f5,f6,f10,f12,f14]))
end
end
section
open Go Go.Eng Go.RowKit
theorem Ic:br Tryz.prog G 205 tm:=
 RE (fun z w h=>by
  simp only[List.cons.injEq,cl,and_true] at h
  rw[h.1,h.2]) vl RP RY
end
end Go.Proofs.YtemiagcencajeaaGreatDoor
