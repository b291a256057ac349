/- What the claim needs of the walks, put together by a program (shake.py). -/
import Derived.Test.YtemiagcencajeaaGreatDoorCtE
set_option maxRecDepth 100000
set_option linter.unusedSimpArgs false
set_option linter.unusedVariables false
set_option linter.unusedSectionVars false
namespace Go.Proofs.YtemiagcencajeaaGreatDoor
section
set_option maxHeartbeats 8000000
open Go Go.Eng Go.RowKit
theorem Qv {m o o' P B y r x a1 z:Nat} (hm:o'+P*y=o+P*(z/m)) (bd:y=0) (h:m*o+P*B*r=P*B*a1) (aP:z=r*B+x):m*o'+P*(z%m)=P*(x+B*a1):=by
 subst bd
 have e:P*(m*(z/m)+z%m)=P*z:=by rw[Nat.div_add_mod]
 rw[aP] at e|-
 rw[aP] at hm
 generalize (r*B+x)/m=q at*
 generalize (r*B+x)%m=t at*
 grind
end
section
set_option maxHeartbeats 8000000
open Go Go.Eng Go.RowKit
attribute [local simp] bx.m bx.o bx.n bx.g gZ eQ df c7 dj evalOp.eq_1 evalOp.eq_2 evalOp.eq_3 evalOp.eq_4 evalOp.eq_5 evalOp.eq_6 evalOp.eq_7 evalOp.eq_8 evalOp.eq_9 evalOp.eq_10 evalOp.eq_11 evalOp.eq_12 evalOp.eq_13 evalOp.eq_14 evalOp.eq_15 evalOp.eq_16 evalOp.eq_17 evalOp.eq_18 evalOp.eq_19 evalOp.eq_20 evalOp.eq_21 evalOp.eq_22 evalOp.eq_23 evalOp.eq_24 evalOp.eq_25 evalOp.eq_27 evalOp.eq_28 evalOp.eq_29 jK bf.ev c6 aF aA.new bj J.cells J.c0 J.ew J.eA hF hH hG hI hK hJ iX iY iZ gm gn cut partOf bound elems ja jb jc jd je jf jg jh ji jj jk jl g2 jm jn jo jq jr js jt ju jv jw jx jy jz jA jB jC jD jE jF jG jH jI jJ eP eJ eB fA hL g0 aA.close aA.set hr jL jM jN i' g1 gv fT fs gf hn gM gg ho hp hq fx fy fz fv hM bY hj hN hk hO hP fq hQ fr hR hS hT gd iW hU hV hW hX hY hZ h0 h1 h3 h4 h5 h6 h7 h8 h9 h_ h' ia ib hl ic ie ig ih ij ik il im iq ir iu iv iw ix iy
attribute [local simp high] iT iU iV iz iA iB iC iD iE iF iG iH iI iJ iK iL iM iN iO iP iQ iR iS
attribute [local simp] aJ List.getElem?_cons_zero List.getElem?_cons_succ eH dp fP Nat.mod_eq_of_lt jY jZ j0 j1 fU j2 j3 j4
section
attribute [local irreducible] ck
attribute [local simp] ed ef dm
noncomputable def p9:FuncId->Option (List J->Option J):=dn [(170,kl),(282,xf)]
theorem Qw:∀f T,p9 f=some T->br Tryz.prog G f T:=dr (by simp only[List.forall_mem_cons];exact⟨o3,Qn,fun _ h=>absurd h (by simp)⟩)
theorem Qx:p9 170=some kl:=rfl
theorem Qy:p9 282=some xf:=rfl
theorem Qz:p9 281=none:=rfl
theorem QA:p9 293=none:=rfl
attribute [local simp] Qx Qy Qz QA
structure ri (kJ o0 qU q y a m L i:Nat) (o:List Nat) (r:Nat) (h:aA):Prop where
 ol:o.length=L
 os:Small o
 Au:∀j,j<i->aS o j=0
 eR:r<m
 eq:m*val o+ay i*r=ay i*(a/ay i)
 db:h.cells kJ=some [bM m]
 gr:h.cells o0=some [.ref q 0 L L]
 lx:h.cells qU=some [bM r]
 j6:h.cells q=some (bU o)
 lA:h.shut q=false
 gA:h.shut qU=false
 gY:h.bm y=some .ready
 rj:y<h.next
theorem ri.bump {kJ o0 qU q y a m L i:Nat} {o:List Nat} {r:Nat} {h:aA} (a3:ri kJ o0 qU q y a m L i o r h) (n:Nat) (ar:h.next<=n):ri kJ o0 qU q y a m L i o r ⟨h.cells,h.shut,n,h.bm⟩:=
 ⟨a3.ol,a3.os,a3.Au,a3.eR,a3.eq,a3.db,a3.gr,a3.lx,a3.j6,a3.lA,a3.gA,a3.gY,Nat.lt_of_lt_of_le a3.rj ar⟩
theorem QB (Y:List c4) {F:Nat->J} {a m L i:Nat} (f3:F 3= .ptr 0 0 0) (f7:F 7= .ptr 9 0 0) (f8:F 8= .ptr 11 0 0) {h:aA} {o:List Nat} {r:Nat} (hm:m<4294967296) (a3:ri 0 9 11 8 18 a m L (i+1) o r h) (ag:i<L):
 ∃u av,fi G (bb Tryz.prog) p9 (⟨18,F,[18,19],(.seq (.region false [⟨(some 9),(.mv (.t 18)),none⟩] []) (.region false [⟨(some 10),(.mv (.t 19)),none⟩] [])),(.block 1 (.region true [⟨(some 21),(.load false 1 (.t 7)),none⟩,⟨(some 22),(.mv (.t 9)),none⟩,⟨(some 23),(.load false 1 (.t 8)),none⟩,⟨(some 24),(.mv (.t 10)),none⟩,⟨(some 25),(.load false 1 (.t 3)),none⟩,⟨(some 26),(.call (.f 282) [(.t 23),(.t 24),(.t 25)]),none⟩,⟨(some 20),(.mv (.t 26)),none⟩,⟨(some 27),(.extract (.t 20) 0),none⟩,⟨(some 28),(.extract (.t 20) 1),none⟩,⟨(some 29),(.iaddrS 1 (.t 21) (.t 22)),none⟩,⟨none,(.store 1 (.t 29) (.t 27)),none⟩,⟨none,(.store 1 (.t 8) (.t 28)),none⟩] [0,0,0,0,0,28,60,124,124,255,767,2047]))⟩::Y) (.kI 18) [bt i,bM (a/ay i%4294967296)] h=some (u,av)/\u= .bool true/\(∃o' gq,ri 0 9 11 8 18 a m L i o' gq av)/\h.next<=av.next/\∀j,j=14->av.cells j=h.cells j:=by
 have ak:a/ay i%4294967296<4294967296:=Nat.mod_lt _ (by decide)
 obtain⟨x,fK⟩:∃x,x=a/ay i%4294967296:=⟨_,rfl⟩
 rw[<-fK] at ak|-
 have t:=Qm (r,x,m) ⟨a3.eR,ak,hm⟩ (args:=[bM r,bM x,bM m]) (by simp)
 simp only at t
 obtain⟨d1,d2⟩:=G3 a3.eR ak hm
 have fJ:=a3.ol
 have st:=Qv (y:=aS o i) (nM (two r x/m) (show i<o.length by omega)) (a3.Au i (by omega)) (by have:=a3.eq;rw[ee] at this;exact this) rfl
 rw[fK,<-ee,pW,Nat.mod_add_div] at st
 rw[<-fK] at st
 have go:=jQ (show i<o.length by omega)
 have sz:=ko (show 0<o.length by omega)
 have set:=oy o i (two r x/m)
 have db:=a3.db
 have gr:=a3.gr
 have lx:=a3.lx
 have j6:=a3.j6
 have lA:=a3.lA
 have gA:=a3.gA
 have rj:=a3.rj
 clear fK
 generalize two r x=z at*
 refine zr (L:=⟨18,F,[18,19],(.seq (.region false [⟨(some 9),(.mv (.t 18)),none⟩] []) (.region false [⟨(some 10),(.mv (.t 19)),none⟩] [])),(.block 1 (.region true [⟨(some 21),(.load false 1 (.t 7)),none⟩,⟨(some 22),(.mv (.t 9)),none⟩,⟨(some 23),(.load false 1 (.t 8)),none⟩,⟨(some 24),(.mv (.t 10)),none⟩,⟨(some 25),(.load false 1 (.t 3)),none⟩,⟨(some 26),(.call (.f 282) [(.t 23),(.t 24),(.t 25)]),none⟩,⟨(some 20),(.mv (.t 26)),none⟩,⟨(some 27),(.extract (.t 20) 0),none⟩,⟨(some 28),(.extract (.t 20) 1),none⟩,⟨(some 29),(.iaddrS 1 (.t 21) (.t 22)),none⟩,⟨none,(.store 1 (.t 29) (.t 27)),none⟩,⟨none,(.store 1 (.t 8) (.t 28)),none⟩] [0,0,0,0,0,28,60,124,124,255,767,2047]))⟩) (Y':=Y) (by simp[ns]) rfl ?_
 simp only[md]
 have e6:aF (aF F 18 (bt i)) 19 (bM x) 3= .ptr 0 0 0:=by simp[aF,f3]
 have kQ:aF (aF F 18 (bt i)) 19 (bM x) 7= .ptr 9 0 0:=by simp[aF,f7]
 have j5:aF (aF F 18 (bt i)) 19 (bM x) 8= .ptr 11 0 0:=by simp[aF,f8]
 refine aC (aD cr ?_)
 simp
 refine aD cr ?_
 simp[a3.gY,Nat.add_assoc]
 refine aO (aD cr ?_)
 simp(disch:=omega) [aJ,List.getElem?_cons_zero,List.getElem?_cons_succ,eH,dp,fP,Nat.mod_eq_of_lt,jY,jZ,j0,j1,fU,j2,j3,j4,f3,f7,f8,db,gr,lx,j6,lA,gA,t,go,sz,set,ag,Nat.add_assoc,rY,ke,vE,nZ,pw]
 refine⟨by decide,o.set i (z/m),z%m,by rw[List.length_set];exact fJ,nN a3.os d1,fun j aZ=>?_,Nat.mod_lt _ (by have:=a3.eR;omega),st,by simp[aF,db],by simp[aF,gr],by simp[aF],by simp[aF],lA,gA,by simp[aF],by show 18<h.next+14;omega⟩
 rw[oo _ _ (by omega),if_neg (by omega)]
 exact a3.Au j (by omega)
theorem s8 (Y:List c4) (h:aA) (l:List Nat) (e:Bool):
 fi G (bb Tryz.prog) p9 Y (.fn 281) [cF l e] h=some (.fn 293 [] [.ptr h.next 0 0],⟨aF h.cells h.next (some [cF l e]),h.shut,h.next+4,h.bm⟩):=by
 obtain⟨v,av,e,rfl,rfl⟩:=kM (Φ:=bb Tryz.prog) (G:=G) (tab:=p9) (Y:=Y) (h:=h) (args:=[cF l e]) (R:=fun v av=>v= .fn 293 [] [.ptr h.next 0 0]/\av=⟨aF h.cells h.next (some [cF l e]),h.shut,h.next+4,h.bm⟩) Fw (by
  unfold i281
  refine ao [0,1,2] fun F=>?_
  simp only[an]
  intro f0 f1 f2
  simp[bj] at f0 f1 f2
  repeat' (first
   | refine aC ?_
   | ((fail_if_success (refine aT ?_));(fail_if_success (refine aU ?_));refine aO ?_)
   | ((first|(refine aD cr ?_;simp(disch:=omega) [Nat.add_assoc,f0,f1,f2];(try(refine⟨by first|decide|rfl,?_⟩)))|(refine aM ?_;simp(disch:=omega) [Nat.add_assoc,f0,f1,f2]));(try(refine ao [0,1,2] ?_;intro F;simp only[an];intro U aa af;simp(disch:=omega) [Nat.add_assoc,f0,f1,f2] at U aa af;clear f0 f1 f2;have f0:=U;have f1:=aa;have f2:=af;clear U aa af)))
   | (refine aL _ (by simp(disch:=omega) [Nat.add_assoc,f0,f1,f2];rfl) (fun I=>?_) (fun I=>?_)<;>first|(exfalso;simp(disch:=omega) [Nat.add_assoc] at I;done)|(exfalso;simp at I;omega)|(simp at I))
   | ((first|refine aH ?_|refine aQ ?_);simp(disch:=omega) [Nat.add_assoc,f0,f1,f2]))
  refine aH ?_
  simp[kL,f2])
 exact e
noncomputable def s9:List J->Option J:=cd (fun z:Nat × Nat=>(ah z.1).length<=100000000/\z.2<4294967296) (fun z=>[aw z.1,bM z.2]) (fun z=>if z.2=0 then .ch [.sl [] false,bM 0,bt 3] else .ch [aw (z.1/z.2),bM (z.1%z.2),bt 0])
theorem QC (z:Nat × Nat) (h:(ah z.1).length<=100000000/\z.2<4294967296) {args:List J} (he:args.map J.loose= [aw z.1,bM z.2]):s9 args=some (if z.2=0 then .ch [.sl [] false,bM 0,bt 3] else .ch [aw (z.1/z.2),bM (z.1%z.2),bt 0]):=cU (fun z w h=>by first|(simp only[List.cons.injEq,J.int.injEq,J.bool.injEq,J.sl.injEq,cl,cm,ct,cu,cp,b2,b6,cn,bY,true_and,and_true] at h;simp[h];done)|(simp only[J.agg.injEq,List.cons.injEq,J.int.injEq,J.bool.injEq,J.sl.injEq,cl,cm,ct,cu,cp,b2,b6,cn,bY,true_and,and_true] at h;simp[h])) z h he
theorem G9:br Tryz.prog G 259 s9:=by
 refine cG mixed Qw Fl fun z aP=>?_
 obtain⟨a,m⟩:=z
 obtain⟨cE,hm⟩:=aP
 simp only at cE hm|-
 unfold i259
 by_cases lz:m=0
 · rw[if_pos lz]
   subst lz
   refine ao [0,1,3,4,5,6,7,8,9,10,12,17,18,19] fun F=>?_
   simp only[an]
   intro f0 f1 f3 f4 f5 f6 f7 f8 f9 f10 f12 f17 f18 f19
   simp[bj] at f0 f1 f3 f4 f5 f6 f7 f8 f9 f10 f12 f17 f18 f19
   repeat' (first
    | refine aC ?_
    | ((fail_if_success (refine aT ?_));(fail_if_success (refine aU ?_));refine aO ?_)
    | ((first|(refine aD cr ?_;simp(disch:=omega) [f0,f1,f3,f4,f5,f6,f7,f8,f9,f10,f12,f17,f18,f19];(try(refine⟨by first|decide|rfl,?_⟩)))|(refine aM ?_;simp(disch:=omega) [f0,f1,f3,f4,f5,f6,f7,f8,f9,f10,f12,f17,f18,f19]));(try(refine ao [0,1,3,4,5,6,7,8,9,10,12,17,18,19] ?_;intro F;simp only[an];intro U aa al ad ae ai au az a2 a5 a9 cB bG ds;simp(disch:=omega) [f0,f1,f3,f4,f5,f6,f7,f8,f9,f10,f12,f17,f18,f19] at U aa al ad ae ai au az a2 a5 a9 cB bG ds;clear f0 f1 f3 f4 f5 f6 f7 f8 f9 f10 f12 f17 f18 f19;have f0:=U;have f1:=aa;have f3:=al;have f4:=ad;have f5:=ae;have f6:=ai;have f7:=au;have f8:=az;have f9:=a2;have f10:=a5;have f12:=a9;have f17:=cB;have f18:=bG;have f19:=ds;clear U aa al ad ae ai au az a2 a5 a9 cB bG ds)))
    | (refine aL _ (by simp(disch:=omega) [f0,f1,f3,f4,f5,f6,f7,f8,f9,f10,f12,f17,f18,f19];rfl) (fun I=>?_) (fun I=>?_)<;>first|(exfalso;simp(disch:=omega) at I;done)|(exfalso;simp at I;omega)|(simp at I))
    | ((first|refine aH ?_|refine aQ ?_);simp(disch:=omega) [f0,f1,f3,f4,f5,f6,f7,f8,f9,f10,f12,f17,f18,f19]))
 · rw[if_neg lz]
   have bh:=dO a
   obtain⟨L,a8⟩:∃L,L=(ah a).length:=⟨_,rfl⟩
   have aI:a<ay L:=c5.1 (by omega)
   have aW:Z L*4<=140737488355328:=by simp only[Z];omega
   refine ao [0,1,3,4,5,6,7,8,9,10,12,17,18,19] fun F=>?_
   simp only[an]
   intro f0 f1 f3 f4 f5 f6 f7 f8 f9 f10 f12 f17 f18 f19
   simp[bj] at f0 f1 f3 f4 f5 f6 f7 f8 f9 f10 f12 f17 f18 f19
   repeat' (first
    | refine aC ?_
    | ((fail_if_success (refine aT ?_));(fail_if_success (refine aU ?_));refine aO ?_)
    | ((first|(refine aD cr ?_;simp(disch:=omega) [lz,aW,g6,s8,<-a8,f0,f1,f3,f4,f5,f6,f7,f8,f9,f10,f12,f17,f18,f19];(try(refine⟨by first|decide|rfl,?_⟩)))|(refine aM ?_;simp(disch:=omega) [lz,aW,g6,s8,<-a8,f0,f1,f3,f4,f5,f6,f7,f8,f9,f10,f12,f17,f18,f19]));(try(refine ao [0,1,3,4,5,6,7,8,9,10,12,17,18,19] ?_;intro F;simp only[an];intro U aa al ad ae ai au az a2 a5 a9 cB bG ds;simp(disch:=omega) [lz,aW,g6,s8,<-a8,f0,f1,f3,f4,f5,f6,f7,f8,f9,f10,f12,f17,f18,f19] at U aa al ad ae ai au az a2 a5 a9 cB bG ds;clear f0 f1 f3 f4 f5 f6 f7 f8 f9 f10 f12 f17 f18 f19;have f0:=U;have f1:=aa;have f3:=al;have f4:=ad;have f5:=ae;have f6:=ai;have f7:=au;have f8:=az;have f9:=a2;have f10:=a5;have f12:=a9;have f17:=cB;have f18:=bG;have f19:=ds;clear U aa al ad ae ai au az a2 a5 a9 cB bG ds)))
    | (refine aL _ (by simp(disch:=omega) [lz,aW,g6,s8,<-a8,f0,f1,f3,f4,f5,f6,f7,f8,f9,f10,f12,f17,f18,f19];rfl) (fun I=>?_) (fun I=>?_)<;>first|(exfalso;simp(disch:=omega) [lz,aW,g6,s8,<-a8] at I;done)|(exfalso;simp at I;omega)|(simp at I))
    | ((first|refine aH ?_|refine aQ ?_);simp(disch:=omega) [lz,aW,g6,s8,<-a8,f0,f1,f3,f4,f5,f6,f7,f8,f9,f10,f12,f17,f18,f19]))
   refine aO (zq f17 FA ?_)
   have e6:=f3
   have kQ:=f7
   have j5:=f8
   clear f0 f1 f3 f4 f5 f6 f7 f8 f9 f10 f12 f17 f18 f19
   unfold i293
   simp
   have gh:IntKind.i64.wrap (Z L - Z 1)=kE L:=l7 (by omega)
   refine ao [0,1,3,8,18] fun F=>?_
   simp only[an]
   intro f0 f1 f3 f8 f18
   simp[bj] at f0 f1 f3 f8 f18
   repeat' (first
    | refine aC ?_
    | ((fail_if_success (refine aT ?_));(fail_if_success (refine aU ?_));refine aO ?_)
    | ((first|(refine aD cr ?_;simp(disch:=omega) [gh,<-a8,f0,f1,f3,f8,f18];(try(refine⟨by first|decide|rfl,?_⟩)))|(refine aM ?_;simp(disch:=omega) [gh,<-a8,f0,f1,f3,f8,f18]));(try(refine ao [0,1,3,8,18] ?_;intro F;simp only[an];intro U aa al az bG;simp(disch:=omega) [gh,<-a8,f0,f1,f3,f8,f18] at U aa al az bG;clear f0 f1 f3 f8 f18;have f0:=U;have f1:=aa;have f3:=al;have f8:=az;have f18:=bG;clear U aa al az bG)))
    | (refine aL _ (by simp(disch:=omega) [gh,<-a8,f0,f1,f3,f8,f18];rfl) (fun I=>?_) (fun I=>?_)<;>first|(exfalso;simp(disch:=omega) [gh,<-a8] at I;done)|(exfalso;simp at I;omega)|(simp at I))
    | ((first|refine aH ?_|refine aQ ?_);simp(disch:=omega) [gh,<-a8,f0,f1,f3,f8,f18]))
   refine oh (fun k s=>k<=L/\(∃o r,ri 0 9 11 8 18 a m L k o r s.h)/\s.h.cells 14=some [aw a]/\s.F 3= .int .i64 (kE k)) (fun s=>∃o r,ri 0 9 11 8 18 a m L 0 o r s.h) (fun _=>False) L ?_ ?_ ?_ (fun _ _ h=>h.elim)
   · refine⟨Nat.le_refl _,⟨List.replicate L 0,0,?_⟩,by simp[aF],f3⟩
     exact⟨by simp,p2 _,fun j _=>wS _ _,by omega,by simp[sF,Nat.div_eq_of_lt aI],by simp[aF],by simp[aF],by simp[aF],by simp[aF],by simp,by simp,by simp[aF],by simp⟩
   · rintro k s aE ⟨Wp,⟨o,r,a3⟩,ov,G_⟩
     replace f0:=(aE 0 rfl).trans f0;replace f1:=(aE 1 rfl).trans f1
     clear f3
     have f3:=G_
     clear G_
     refine ao [0,1,3,8,18] ?_
     intro F
     simp only[an]
     intro U aa al az bG
     try simp[aJ,f0,f1,f3] at U aa al az bG
     clear f0 f1 f3
     have f0:=U
     have f1:=aa
     have f3:=al
     have f8:=az
     have f18:=bG
     clear U aa al az bG
     cases k with
     | zero=>
       rw[qX] at f3
       repeat' (first
        | refine aC ?_
        | ((fail_if_success (refine aT ?_));(fail_if_success (refine aU ?_));refine aO ?_)
        | ((first|(refine aD cr ?_;simp(disch:=omega) [kR,f0,f1,f3,f8,f18];(try(refine⟨by first|decide|rfl,?_⟩)))|(refine aM ?_;simp(disch:=omega) [kR,f0,f1,f3,f8,f18]));(try(refine ao [0,1,3,8,18] ?_;intro F;simp only[an];intro U aa al az bG;simp(disch:=omega) [kR,f0,f1,f3,f8,f18] at U aa al az bG;clear f0 f1 f3 f8 f18;have f0:=U;have f1:=aa;have f3:=al;have f8:=az;have f18:=bG;clear U aa al az bG)))
        | (refine aL _ (by simp(disch:=omega) [kR,f0,f1,f3,f8,f18];rfl) (fun I=>?_) (fun I=>?_)<;>first|(exfalso;simp(disch:=omega) [kR] at I;done)|(exfalso;simp at I;omega)|(simp at I))
        | ((first|refine aH ?_|refine aQ ?_);simp(disch:=omega) [kR,f0,f1,f3,f8,f18]))
       exact⟨o,r,a3.bump _ (by omega)⟩
     | succ i=>
       rw[sI] at f3
       have j9:=(kj (show i<(ah a).length by omega)).symm
       rw[fV] at j9
       have lg:=fun n ar=>a3.bump n ar
       have g9:i<L:=by omega
       have s_:IntKind.i64.wrap (Z i - Z 1)=kE i:=l7 (by omega)
       obtain⟨u,av,fH,rfl,sS,qL,kY⟩:=QB [] e6 kQ j5 hm (lg (s.h.next+10) (by omega)) g9
       have kY:=kY 14 rfl
       simp only at qL kY
       rw[ov] at kY
       have rj:=a3.rj
       repeat' (first
        | refine aC ?_
        | ((fail_if_success (refine aT ?_));(fail_if_success (refine aU ?_));refine aO ?_)
        | ((first|(refine aD cr ?_;simp(disch:=omega) [ov,j9,g9,s_,fH,Nat.add_assoc,<-a8,f0,f1,f3,f8,f18];(try(refine⟨by first|decide|rfl,?_⟩)))|(refine aM ?_;simp(disch:=omega) [ov,j9,g9,s_,fH,Nat.add_assoc,<-a8,f0,f1,f3,f8,f18]));(try(refine ao [0,1,3,8,18] ?_;intro F;simp only[an];intro U aa al az bG;simp(disch:=omega) [ov,j9,g9,s_,fH,Nat.add_assoc,<-a8,f0,f1,f3,f8,f18] at U aa al az bG;clear f0 f1 f3 f8 f18;have f0:=U;have f1:=aa;have f3:=al;have f8:=az;have f18:=bG;clear U aa al az bG)))
        | (refine aL _ (by simp(disch:=omega) [ov,j9,g9,s_,fH,Nat.add_assoc,<-a8,f0,f1,f3,f8,f18];rfl) (fun I=>?_) (fun I=>?_)<;>first|(exfalso;simp(disch:=omega) [ov,j9,g9,s_,fH,Nat.add_assoc,<-a8] at I;done)|(exfalso;simp at I;omega)|(simp at I))
        | ((first|refine aH ?_|refine aQ ?_);simp(disch:=omega) [ov,j9,g9,s_,fH,Nat.add_assoc,<-a8,f0,f1,f3,f8,f18]))
       obtain⟨o',gq,sS⟩:=sS
       exact⟨i,Nat.lt_succ_self i,by omega,⟨o',gq,sS.bump _ (by omega)⟩,kY,by first|rfl|exact f3⟩
   · rintro s aE ⟨o,r,a3⟩
     have gr:=a3.gr
     have lx:=a3.lx
     have j6:=a3.j6
     have fJ:=a3.ol
     have rj:=a3.rj
     have s':8<s.h.next:=by omega
     have ta:9<s.h.next:=by omega
     have tb:11<s.h.next:=by omega
     have e:=a3.eq
     rw[ft,Nat.one_mul,Nat.one_mul,Nat.div_one] at e
     have tc:=a3.eR
     have aq:val o=a/m:=by rw[<-e,Nat.mul_add_div (by omega),Nat.div_eq_of_lt tc,Nat.add_zero]
     have aB:r=a%m:=by rw[<-e,Nat.mul_add_mod,Nat.mod_eq_of_lt tc]
     have bW:=ou (e:=false) a3.os (show o.length<=1073741824 by omega)
     rw[aq] at bW
     have ey:=w' (show o.length<=L by omega)
     have fO:=w_ o
     have my:=o9 o
     have hle:L<=(bU o).length:=by omega
     rw[show (o.map fun n=>J.int .u32 (Z n))=bU o from rfl] at bW
     refine⟨trivial,⟨_,rfl⟩,?_⟩
     simp only[a3.gY]
     rw[<-aB]
     generalize a/m=Wq at*
     simp
     have f7:=kQ
     have f8:=j5
     refine ao [4,5,6,7,8] ?_
     intro F
     simp only[an]
     intro ad ae ai au az
     try simp[aJ,f7,f8] at ad ae ai au az
     clear f7 f8
     have f4:=ad
     have f5:=ae
     have f6:=ai
     have f7:=au
     have f8:=az
     clear ad ae ai au az
     repeat' (first
      | refine aC ?_
      | ((fail_if_success (refine aT ?_));(fail_if_success (refine aU ?_));refine aO ?_)
      | ((first|(refine aD cr ?_;simp(disch:=omega) [gr,lx,j6,bW,ey,fO,hle,s',ta,tb,f4,f5,f6,f7,f8];(try(refine⟨by first|decide|rfl,?_⟩)))|(refine aM ?_;simp(disch:=omega) [gr,lx,j6,bW,ey,fO,hle,s',ta,tb,f4,f5,f6,f7,f8]));(try(refine ao [4,5,6,7,8] ?_;intro F;simp only[an];intro ad ae ai au az;simp(disch:=omega) [gr,lx,j6,bW,ey,fO,hle,s',ta,tb,f4,f5,f6,f7,f8] at ad ae ai au az;clear f4 f5 f6 f7 f8;have f4:=ad;have f5:=ae;have f6:=ai;have f7:=au;have f8:=az;clear ad ae ai au az)))
      | (refine aL _ (by simp(disch:=omega) [gr,lx,j6,bW,ey,fO,hle,s',ta,tb,f4,f5,f6,f7,f8];rfl) (fun I=>?_) (fun I=>?_)<;>first|(exfalso;simp(disch:=omega) [gr,lx,j6,bW,ey,fO,hle,s',ta,tb] at I;done)|(exfalso;simp at I;omega)|(simp at I))
      | ((first|refine aH ?_|refine aQ ?_);simp(disch:=omega) [gr,lx,j6,bW,ey,fO,hle,s',ta,tb,f4,f5,f6,f7,f8]))
end
section
attribute [local irreducible] ck
attribute [local simp] ed ef dm
noncomputable def g_:FuncId->Option (List J->Option J):=dn [(171,nb),(259,s9),(260,xg),(261,s7),(173,lQ),(241,q3),(245,q4)]
theorem QD:∀f T,g_ f=some T->br Tryz.prog G f T:=dr (by simp only[List.forall_mem_cons];exact⟨u1,G9,Qp,Qr,Ac,Gg,Gi,fun _ h=>absurd h (by simp)⟩)
theorem xh:g_ 171=some nb:=rfl
theorem QE:g_ 259=some s9:=rfl
theorem xi:g_ 260=some xg:=rfl
theorem xj:g_ 261=some s7:=rfl
theorem xk:g_ 173=some lQ:=rfl
theorem G':g_ 241=some q3:=rfl
theorem Ha:g_ 245=some q4:=rfl
theorem xl:g_ 170=none:=rfl
theorem QF:g_ 238=none:=rfl
theorem xm:g_ 172=none:=rfl
theorem u':g_ 262=none:=rfl
theorem va:g_ 263=none:=rfl
theorem QG:g_ 205=none:=rfl
attribute [local simp] xh QE xi xj xk G' Ha xl QF xm u' va QG
structure Own (h av:aA) (v:J) (o:List Nat):Prop where
 kept:Kept h av
 val:(o= []/\v= .sl [] true)\/∃r,v= .ref r 0 o.length o.length/\h.next<=r/\eU av r o
theorem QH (o:List Nat) (n:Nat):List.take n (bU o)=bU (o.take n):=by rw[bU,bU,List.map_take]
theorem QI (o:List Nat):(bU o).all (fun e=>e.cells.length == 1&&e.cells.all J.c0)=true:=by simp[bU,J.cells,J.c0]
theorem QJ (o:List Nat):(bU o).all (fun e=>e.cells.length == 1)=true:=by simp[bU,J.cells]
theorem QK {r:Nat} {h:aA} {q n N:Nat} {o:List Nat} (I:h.cells q=some (bU o)) (ar:n<=o.length) (aJ:0<n) (aV:n<=1000000000):
 ki r 1 4 h (.sl [] true) (.ref q 0 n N)=some (.ref r 0 n n,h.new r (bU (o.take n)),.wr):=by
 have e:elems h (.ref q 0 n N)=some (bU (o.take n)):=by
  simp only[elems,I];rw[if_pos (by rw[o9];omega),List.drop_zero,QH]
 have hle:(bU (o.take n)).length=n:=by rw[o9,List.length_take];omega
 unfold ki
 rw[e]
 simp only[Option.bind_some]
 rw[if_pos ⟨by decide,by decide,QI _⟩,if_neg (by omega)]
 simp only[kd,hle,List.length_nil,Nat.zero_add,List.nil_append,Bool.false_eq_true,if_false]
 rw[if_pos (by refine⟨?_,?_,aJ,?_⟩<;>first|trivial|omega|rfl)]
theorem QL (Y:List c4) (h:aA) (bZ:∀j,h.shut j=false) {q n:Nat} {o:List Nat} (V:eU h q o) (ar:n<=o.length) (aJ:0<o.length) (aV:o.length<=1000000000):
 ∃v av,fi G (bb Tryz.prog) g_ Y (.fn 238) [.ref q 0 n o.length] h=some (v,av)/\Own h av v (o.take n):=by
 refine kM zE ?_
 have b3:=V.cells
 have cy:=ko aJ
 unfold i238
 by_cases m5:n=0
 · subst m5
   have el:∀m p,elems ⟨h.cells,h.shut,m,p⟩ (.ref q 0 0 o.length)=some []:=fun m p=>by simp[elems,b3]
   have ap:∀m p r,ki r 1 4 ⟨h.cells,h.shut,m,p⟩ (.sl [] true) (.ref q 0 0 o.length)=some (.sl [] true,⟨h.cells,h.shut,m,p⟩,.wr):=fun m p r=>by
    unfold ki;rw[el];simp[kd]
   refine ao [0,2,4] fun F=>?_
   simp only[an]
   intro f0 f2 f4
   simp[bj] at f0 f2 f4
   repeat' (first
    | refine aC ?_
    | ((fail_if_success (refine aT ?_));(fail_if_success (refine aU ?_));refine aO ?_)
    | ((first|(refine aD cr ?_;simp(disch:=omega) [aJ,ap,f0,f2,f4];(try(refine⟨by first|decide|rfl,?_⟩)))|(refine aM ?_;simp(disch:=omega) [aJ,ap,f0,f2,f4]));(try(refine ao [0,2,4] ?_;intro F;simp only[an];intro U af ad;simp(disch:=omega) [aJ,ap,f0,f2,f4] at U af ad;clear f0 f2 f4;have f0:=U;have f2:=af;have f4:=ad;clear U af ad)))
    | (refine aL _ (by simp(disch:=omega) [aJ,ap,f0,f2,f4];rfl) (fun I=>?_) (fun I=>?_)<;>first|(exfalso;simp(disch:=omega) [aJ,ap] at I;done)|(exfalso;simp at I;omega)|(simp at I))
    | ((first|refine aH ?_|refine aQ ?_);simp(disch:=omega) [aJ,ap,f0,f2,f4]))
   refine aH ?_
   simp[kL,f2]
   exact⟨(Kept.sC h).bump _ (by omega),.inl ⟨by simp,rfl⟩⟩
 · have ap:∀m p r,ki r 1 4 ⟨h.cells,h.shut,m,p⟩ (.sl [] true) (.ref q 0 n o.length)=some (.ref r 0 n n,⟨aF h.cells r (some (bU (o.take n))),h.shut,m,p⟩,.wr):=fun m p r=>QK b3 ar (by omega) (by omega)
   have hle:(o.take n).length=n:=by rw[List.length_take];omega
   refine ao [0,2,4] fun F=>?_
   simp only[an]
   intro f0 f2 f4
   simp[bj] at f0 f2 f4
   repeat' (first
    | refine aC ?_
    | ((fail_if_success (refine aT ?_));(fail_if_success (refine aU ?_));refine aO ?_)
    | ((first|(refine aD cr ?_;simp(disch:=omega) [aJ,ap,f0,f2,f4];(try(refine⟨by first|decide|rfl,?_⟩)))|(refine aM ?_;simp(disch:=omega) [aJ,ap,f0,f2,f4]));(try(refine ao [0,2,4] ?_;intro F;simp only[an];intro U af ad;simp(disch:=omega) [aJ,ap,f0,f2,f4] at U af ad;clear f0 f2 f4;have f0:=U;have f2:=af;have f4:=ad;clear U af ad)))
    | (refine aL _ (by simp(disch:=omega) [aJ,ap,f0,f2,f4];rfl) (fun I=>?_) (fun I=>?_)<;>first|(exfalso;simp(disch:=omega) [aJ,ap] at I;done)|(exfalso;simp at I;omega)|(simp at I))
    | ((first|refine aH ?_|refine aQ ?_);simp(disch:=omega) [aJ,ap,f0,f2,f4]))
   refine aH ?_
   simp[kL,f2]
   exact⟨(Kept.sC h).new _ _ (by omega) (by omega),.inr ⟨_,by rw[hle],by omega,⟨by simp only[aF,if_true],bZ _,by show h.next+1+2+2<h.next+1+2+4;omega⟩⟩⟩
theorem Own.trans {a b c:aA} {v:J} {o:List Nat} (k:Kept a b) (x:Own b c v o):Own a c v o:=
 ⟨k.trans x.kept,x.val.imp id fun⟨r,ab,h2,aX⟩=>⟨r,ab,Nat.le_trans k.next h2,aX⟩⟩
theorem eU.kept {h av:aA} {q:Nat} {o:List Nat} (V:eU h q o) (k:Kept h av):eU av q o:=⟨by rw[k.cells q V.et];exact V.cells,by rw[k.shut];exact V.c1,Nat.lt_of_lt_of_le V.et k.next⟩
theorem Av (Y:List c4) (h:aA) (bZ:∀j,h.shut j=false) {q:Nat} {o:List Nat} (V:eU h q o) (aG:Small o) (aJ:0<o.length) (aV:o.length<=1000000000):
 ∃v av,fi G (bb Tryz.prog) g_ Y (.fn 170) [.ref q 0 o.length o.length] h=some (v,av)/\Own h av v (ah (val o)):=by
 refine kM zB ?_
 have cy:=ko aJ
 unfold i170
 refine ao [0,2,3,15] fun F=>?_
 simp only[an]
 intro f0 f2 f3 f15
 simp[bj] at f0 f2 f3 f15
 repeat' (first
  | refine aC ?_
  | ((fail_if_success (refine aT ?_));(fail_if_success (refine aU ?_));refine aO ?_)
  | ((first|(refine aD cr ?_;simp(disch:=omega) [f0,f2,f3,f15];(try(refine⟨by first|decide|rfl,?_⟩)))|(refine aM ?_;simp(disch:=omega) [f0,f2,f3,f15]));(try(refine ao [0,2,3,15] ?_;intro F;simp only[an];intro U af al bD;simp(disch:=omega) [f0,f2,f3,f15] at U af al bD;clear f0 f2 f3 f15;have f0:=U;have f2:=af;have f3:=al;have f15:=bD;clear U af al bD)))
  | (refine aL _ (by simp(disch:=omega) [f0,f2,f3,f15];rfl) (fun I=>?_) (fun I=>?_)<;>first|(exfalso;simp(disch:=omega) at I;done)|(exfalso;simp at I;omega)|(simp at I))
  | ((first|refine aH ?_|refine aQ ?_);simp(disch:=omega) [f0,f2,f3,f15]))
 refine oh (fun m s=>m<=o.length/\(∀i,m<=i->aS o i=0)/\Kept h s.h/\s.F 3=bt m) (fun s=>∃m,m<=o.length/\(∀i,m<=i->aS o i=0)/\(m=0\/aS o (m - 1)≠0)/\Kept h s.h/\s.F 3=bt m) (fun _=>False) o.length ?_ ?_ ?_ (fun _ _ h=>h.elim)
 · exact⟨Nat.le_refl _,fun i ag=>pV ag,(Kept.sC h).bump _ (by omega),by first|rfl|exact f3⟩
 · rintro m s aE ⟨hm,aP,K,e6⟩
   replace f0:=(aE 0 rfl).trans f0
   clear f3
   have f3:=e6
   have b3:=(V.kept K).cells
   refine ao [0,3,15] ?_
   intro F
   simp only[an]
   intro U al bD
   try simp[aJ,f0,f3] at U al bD
   clear f0 f3
   have f0:=U
   have f3:=al
   have f15:=bD
   clear U al bD
   cases m with
   | zero=>
     repeat' (first
      | refine aC ?_
      | ((fail_if_success (refine aT ?_));(fail_if_success (refine aU ?_));refine aO ?_)
      | ((first|(refine aD cr ?_;simp(disch:=omega) [f0,f3,f15];(try(refine⟨by first|decide|rfl,?_⟩)))|(refine aM ?_;simp(disch:=omega) [f0,f3,f15]));(try(refine ao [0,3,15] ?_;intro F;simp only[an];intro U al bD;simp(disch:=omega) [f0,f3,f15] at U al bD;clear f0 f3 f15;have f0:=U;have f3:=al;have f15:=bD;clear U al bD)))
      | (refine aL _ (by simp(disch:=omega) [f0,f3,f15];rfl) (fun I=>?_) (fun I=>?_)<;>first|(exfalso;simp(disch:=omega) at I;done)|(exfalso;simp at I;omega)|(simp at I))
      | ((first|refine aH ?_|refine aQ ?_);simp(disch:=omega) [f0,f3,f15]))
     exact⟨0,by omega,aP,.inl rfl,K.bump _ (by omega),by first|rfl|exact f3⟩
   | succ m=>
     have go:=jQ (show m<o.length by omega)
     have nd:m<o.length:=by omega
     have hw:IntKind.i64.wrap (Z (m+1) - Z 1)=Z m:=by rw[dp (by omega) (by omega)];rfl
     by_cases ak:aS o m=0
     · skip
       repeat' (first
        | refine aC ?_
        | ((fail_if_success (refine aT ?_));(fail_if_success (refine aU ?_));refine aO ?_)
        | ((first|(refine aD cr ?_;simp(disch:=omega) [b3,cy,go,nd,hw,ak,f0,f3,f15];(try(refine⟨by first|decide|rfl,?_⟩)))|(refine aM ?_;simp(disch:=omega) [b3,cy,go,nd,hw,ak,f0,f3,f15]));(try(refine ao [0,3,15] ?_;intro F;simp only[an];intro U al bD;simp(disch:=omega) [b3,cy,go,nd,hw,ak,f0,f3,f15] at U al bD;clear f0 f3 f15;have f0:=U;have f3:=al;have f15:=bD;clear U al bD)))
        | (refine aL _ (by simp(disch:=omega) [b3,cy,go,nd,hw,ak,f0,f3,f15];rfl) (fun I=>?_) (fun I=>?_)<;>first|(exfalso;simp(disch:=omega) [b3,cy,go,nd,hw,ak] at I;done)|(exfalso;simp at I;omega)|(simp at I))
        | ((first|refine aH ?_|refine aQ ?_);simp(disch:=omega) [b3,cy,go,nd,hw,ak,f0,f3,f15]))
       refine⟨m,by omega,by omega,fun i ag=>?_,K.bump _ (by omega),by first|rfl|exact f3⟩
       by_cases e:i=m
       · subst e;exact ak
       · exact aP i (by omega)
     · skip
       repeat' (first
        | refine aC ?_
        | ((fail_if_success (refine aT ?_));(fail_if_success (refine aU ?_));refine aO ?_)
        | ((first|(refine aD cr ?_;simp(disch:=omega) [b3,cy,go,nd,hw,ak,f0,f3,f15];(try(refine⟨by first|decide|rfl,?_⟩)))|(refine aM ?_;simp(disch:=omega) [b3,cy,go,nd,hw,ak,f0,f3,f15]));(try(refine ao [0,3,15] ?_;intro F;simp only[an];intro U al bD;simp(disch:=omega) [b3,cy,go,nd,hw,ak,f0,f3,f15] at U al bD;clear f0 f3 f15;have f0:=U;have f3:=al;have f15:=bD;clear U al bD)))
        | (refine aL _ (by simp(disch:=omega) [b3,cy,go,nd,hw,ak,f0,f3,f15];rfl) (fun I=>?_) (fun I=>?_)<;>first|(exfalso;simp(disch:=omega) [b3,cy,go,nd,hw,ak] at I;done)|(exfalso;simp at I;omega)|(simp at I))
        | ((first|refine aH ?_|refine aQ ?_);simp(disch:=omega) [b3,cy,go,nd,hw,ak,f0,f3,f15]))
       exact⟨m+1,hm,aP,.inr ak,K.bump _ (by omega),by first|rfl|exact f3⟩
 · rintro s aE ⟨m,hm,aP,hh,K,e6⟩
   replace f0:=(aE 0 rfl).trans f0
   clear f3
   have f3:=e6
   have a7:=zJ aG hm aP hh
   obtain⟨v,av,aq,own⟩:=QL Y ⟨s.h.cells,s.h.shut,s.h.next+5,s.h.bm⟩ (fun j=>by show s.h.shut j=false;rw[K.shut];exact bZ j) ((V.kept K).bump (s.h.next+5) s.h.bm (by omega)) hm aJ aV
   rw[a7] at own
   refine ao [0,2,3] ?_
   intro F
   simp only[an]
   intro U af al
   try simp[aJ,f0,f3] at U af al
   clear f0 f3
   have f0:=U
   have f2:=af
   have f3:=al
   clear U af al
   repeat' (first
    | refine aC ?_
    | ((fail_if_success (refine aT ?_));(fail_if_success (refine aU ?_));refine aO ?_)
    | ((first|(refine aD cr ?_;simp(disch:=omega) [aq,hm,f0,f2,f3];(try(refine⟨by first|decide|rfl,?_⟩)))|(refine aM ?_;simp(disch:=omega) [aq,hm,f0,f2,f3]));(try(refine ao [0,2,3] ?_;intro F;simp only[an];intro U af al;simp(disch:=omega) [aq,hm,f0,f2,f3] at U af al;clear f0 f2 f3;have f0:=U;have f2:=af;have f3:=al;clear U af al)))
    | (refine aL _ (by simp(disch:=omega) [aq,hm,f0,f2,f3];rfl) (fun I=>?_) (fun I=>?_)<;>first|(exfalso;simp(disch:=omega) [aq,hm] at I;done)|(exfalso;simp at I;omega)|(simp at I))
    | ((first|refine aH ?_|refine aQ ?_);simp(disch:=omega) [aq,hm,f0,f2,f3]))
   refine aH ?_
   simp[kL,f2]
   exact Own.trans (K.bump _ (by omega)) own
theorem xn {h g:aA} (K:Kept h g) {q:Nat} (bc:h.next<=q) (v:Option (List J)) (n:Nat) (p:Nat->Option fw) (ar:g.next<=n) (a4:p=g.bm:=by rfl):Kept h ⟨aF g.cells q v,g.shut,n,p⟩:=
 ⟨Nat.le_trans K.next ar,fun j aZ=>by
   have:j≠q:=by omega
   simp only[aF,if_neg this];exact K.cells j aZ,K.shut,by rw[a4];exact K.bm⟩
def Hb (h:aA) (a r w L i:Nat) (s:a'):Prop:=(∃q,h.next<=q/\∃o c,o.length=i/\Small o/\c<2^r/\val o+ay i*c=a%ay i*2^r/\s.F 5= .ref q 0 (w+i) (w+L+1)/\s.F 7=bM c/\Row s.h q (List.replicate w 0++o) (w+L+1))/\Kept h s.h
theorem Hc (Y:List c4) (h:aA) (bZ:∀j,h.shut j=false) {a n:Nat} {e:Bool} (dD:a≠0) (cE:(ah a).length<=100000000) (ar:n<=100000000):
 ∃v av,fi G (bb Tryz.prog) g_ Y (.fn 172) [cF (ah a) e,bt n] h=some (v,av)/\Own h av v (ah (a*2^n)):=by
 refine kM zC ?_
 have bh:=dO a
 have bP:ah a≠ []:=fun h=>dD (jO.1 h)
 obtain⟨w,hw⟩:∃w,w=n/32:=⟨_,rfl⟩
 obtain⟨r,ba⟩:∃r,r=n%32:=⟨_,rfl⟩
 have om:r<32:=by omega
 have qZ:ay w*(a*2^r)=a*2^n:=by
  rw[lf,Nat.mul_left_comm,<-Nat.pow_add,show 32*w+r=n by omega]
 have a6:2^r<=2147483648:=Nat.pow_le_pow_right (n:=2) (by decide) (show r<=31 by omega)
 obtain⟨L,a8⟩:∃L,L=(ah a).length:=⟨_,rfl⟩
 have aI:a<ay L:=c5.1 (by omega)
 have mu:0<L:=by rw[a8];exact mo.2 dD
 unfold i172
 have kn:Z (w+L+1)*4<=140737488355328:=by simp only[Z];omega
 have lC:w<=w+L+1:=by omega
 have O6:n<9223372036854775808:=by omega
 refine ao [0,1,4,5,6,7,9,12,24,25,26,27] fun F=>?_
 simp only[an]
 intro f0 f1 f4 f5 f6 f7 f9 f12 f24 f25 f26 f27
 simp[bj] at f0 f1 f4 f5 f6 f7 f9 f12 f24 f25 f26 f27
 repeat' (first
  | refine aC ?_
  | ((fail_if_success (refine aT ?_));(fail_if_success (refine aU ?_));refine aO ?_)
  | ((first|(refine aD cr ?_;simp(disch:=omega) [<-hw,<-ba,<-a8,bP,kn,lC,mu,f0,f1,f4,f5,f6,f7,f9,f12,f24,f25,f26,f27];(try(refine⟨by first|decide|rfl,?_⟩)))|(refine aM ?_;simp(disch:=omega) [<-hw,<-ba,<-a8,bP,kn,lC,mu,f0,f1,f4,f5,f6,f7,f9,f12,f24,f25,f26,f27]));(try(refine ao [0,1,4,5,6,7,9,12,24,25,26,27] ?_;intro F;simp only[an];intro U aa ad ae ai au a2 a9 cA bo bB bL;simp(disch:=omega) [<-hw,<-ba,<-a8,bP,kn,lC,mu,f0,f1,f4,f5,f6,f7,f9,f12,f24,f25,f26,f27] at U aa ad ae ai au a2 a9 cA bo bB bL;clear f0 f1 f4 f5 f6 f7 f9 f12 f24 f25 f26 f27;have f0:=U;have f1:=aa;have f4:=ad;have f5:=ae;have f6:=ai;have f7:=au;have f9:=a2;have f12:=a9;have f24:=cA;have f25:=bo;have f26:=bB;have f27:=bL;clear U aa ad ae ai au a2 a9 cA bo bB bL)))
  | (refine aL _ (by simp(disch:=omega) [<-hw,<-ba,<-a8,bP,kn,lC,mu,f0,f1,f4,f5,f6,f7,f9,f12,f24,f25,f26,f27];rfl) (fun I=>?_) (fun I=>?_)<;>first|(exfalso;simp(disch:=omega) [<-hw,<-ba,<-a8,bP,kn,lC,mu] at I;done)|(exfalso;simp at I;omega)|(simp at I))
  | ((first|refine aH ?_|refine aQ ?_);simp(disch:=omega) [<-hw,<-ba,<-a8,bP,kn,lC,mu,f0,f1,f4,f5,f6,f7,f9,f12,f24,f25,f26,f27]))
 refine kO L (fun i s=>Hb h a r w L i s/\s.F 26=bt i) (Hb h a r w L L) (fun _=>False) ?_ ?_ ?_ (fun _ _ h=>h.elim)
 · refine⟨⟨⟨_,by omega,[],0,rfl,Small.nil,Nat.pow_pos (by decide),by simp[val,ft,Nat.mod_one],f5,f7,?_,bZ _,?_,?_⟩,(Kept.sC h).new _ _ (by omega) (by omega)⟩,f26⟩
   · rw[List.append_nil,Gu lC,<-Gt];simp[aF]
   · show h.next+1+3+8<h.next+1+3+10+3+1+3;omega
   · simp;omega
 · rintro i s ag aE ⟨⟨⟨q,q1,o,c,aK,aG,o7,aR,ez,kQ,R⟩,K⟩,u5⟩
   replace f0:=(aE 0 rfl).trans f0;replace f6:=(aE 6 rfl).trans f6;replace f24:=(aE 24 rfl).trans f24;replace f25:=(aE 25 rfl).trans f25
   clear f5 f7 f26
   have f5:=ez
   have f7:=kQ
   have f26:=u5
   refine ao [0,5,6,7,9,24,25,26,27] ?_
   intro F
   simp only[an]
   intro U ae ai au a2 cA bo bB bL
   try simp[aJ,f0,f5,f6,f7,f24,f25,f26] at U ae ai au a2 cA bo bB bL
   clear f0 f5 f6 f7 f24 f25 f26
   have f0:=U
   have f5:=ae
   have f6:=ai
   have f7:=au
   have f9:=a2
   have f24:=cA
   have f25:=bo
   have f26:=bB
   have f27:=bL
   clear U ae ai au a2 cA bo bB bL
   by_cases aW:i<L
   · have ak:=bh.aS i
     have cR:=(kj (show i<(ah a).length by omega)).symm
     have st:=Gx aR
     rw[<-fV] at st
     have dQ:=Gv (x:=aS (ah a) i) (by omega) o7
     have c8:=Gw (x:=aS (ah a) i) (by omega) o7
     have hlen:(List.replicate w 0++o).length=w+i:=by simp[aK]
     have ap:=R.app (by omega) (by omega) (aS (ah a) i*2^r%4294967296+c)
     rw[hlen] at ap
     have bJ:min r 32=r:=by omega
     have ca:min r 64=r:=by omega
     have kA:aS (ah a) i*2^r/4294967296<2^r:=by
      rw[Nat.div_lt_iff_lt_mul (by decide),Nat.mul_comm]
      exact Nat.mul_lt_mul_of_pos_left ak (Nat.pow_pos (by decide))
     have mw:aS (ah a) i*2^r<18446744073709551616:=Nat.lt_of_le_of_lt (Nat.mul_le_mul (show aS (ah a) i<=4294967295 by omega) a6) (by decide)
     have lh:aS (ah a) i*2^r/4294967296<4294967296:=by omega
     have z7:=fun m p hm=>R.put (m:=m) (p:=p) (by omega) (aS (ah a) i*2^r%4294967296+c) hm
     repeat' (first
      | refine aC ?_
      | ((fail_if_success (refine aT ?_));(fail_if_success (refine aU ?_));refine aO ?_)
      | ((first|(refine aD cr ?_;simp(disch:=omega) [aW,cR,dQ,c8,ap,bJ,ca,mw,lh,<-a8,f0,f5,f6,f7,f9,f24,f25,f26,f27];(try(refine⟨by first|decide|rfl,?_⟩)))|(refine aM ?_;simp(disch:=omega) [aW,cR,dQ,c8,ap,bJ,ca,mw,lh,<-a8,f0,f5,f6,f7,f9,f24,f25,f26,f27]));(try(refine ao [0,5,6,7,9,24,25,26,27] ?_;intro F;simp only[an];intro U ae ai au a2 cA bo bB bL;simp(disch:=omega) [aW,cR,dQ,c8,ap,bJ,ca,mw,lh,<-a8,f0,f5,f6,f7,f9,f24,f25,f26,f27] at U ae ai au a2 cA bo bB bL;clear f0 f5 f6 f7 f9 f24 f25 f26 f27;have f0:=U;have f5:=ae;have f6:=ai;have f7:=au;have f9:=a2;have f24:=cA;have f25:=bo;have f26:=bB;have f27:=bL;clear U ae ai au a2 cA bo bB bL)))
      | (refine aL _ (by simp(disch:=omega) [aW,cR,dQ,c8,ap,bJ,ca,mw,lh,<-a8,f0,f5,f6,f7,f9,f24,f25,f26,f27];rfl) (fun I=>?_) (fun I=>?_)<;>first|(exfalso;simp(disch:=omega) [aW,cR,dQ,c8,ap,bJ,ca,mw,lh,<-a8] at I;done)|(exfalso;simp at I;omega)|(simp at I))
      | ((first|refine aH ?_|refine aQ ?_);simp(disch:=omega) [aW,cR,dQ,c8,ap,bJ,ca,mw,lh,<-a8,f0,f5,f6,f7,f9,f24,f25,f26,f27]))
     refine⟨⟨q,q1,o++ [aS (ah a) i*2^r%4294967296+c],_,by simp[aK],nK.2 ⟨aG,ld.2 ⟨c8,Small.nil⟩⟩,kA,?_,f5,f7,?_⟩,xn K q1 _ _ _ (by omega)⟩
     · rw[lO,aK];simpa[val] using st
     · rw[<-List.append_assoc];refine z7 _ _ ?_;omega
   · have oq:i=L:=by omega
     subst oq
     repeat' (first
      | refine aC ?_
      | ((fail_if_success (refine aT ?_));(fail_if_success (refine aU ?_));refine aO ?_)
      | ((first|(refine aD cr ?_;simp(disch:=omega) [aW,f0,f5,f6,f7,f9,f24,f25,f26,f27];(try(refine⟨by first|decide|rfl,?_⟩)))|(refine aM ?_;simp(disch:=omega) [aW,f0,f5,f6,f7,f9,f24,f25,f26,f27]));(try(refine ao [0,5,6,7,9,24,25,26,27] ?_;intro F;simp only[an];intro U ae ai au a2 cA bo bB bL;simp(disch:=omega) [aW,f0,f5,f6,f7,f9,f24,f25,f26,f27] at U ae ai au a2 cA bo bB bL;clear f0 f5 f6 f7 f9 f24 f25 f26 f27;have f0:=U;have f5:=ae;have f6:=ai;have f7:=au;have f9:=a2;have f24:=cA;have f25:=bo;have f26:=bB;have f27:=bL;clear U ae ai au a2 cA bo bB bL)))
      | (refine aL _ (by simp(disch:=omega) [aW,f0,f5,f6,f7,f9,f24,f25,f26,f27];rfl) (fun I=>?_) (fun I=>?_)<;>first|(exfalso;simp(disch:=omega) [aW] at I;done)|(exfalso;simp at I;omega)|(simp at I))
      | ((first|refine aH ?_|refine aQ ?_);simp(disch:=omega) [aW,f0,f5,f6,f7,f9,f24,f25,f26,f27]))
     exact⟨⟨q,q1,o,c,aK,aG,o7,aR,f5,f7,R.bump _ _ (by omega)⟩,Kept.bump K _ (by omega)⟩
 · rintro s aE ⟨⟨q,q1,o,c,aK,aG,o7,aR,ez,kQ,R⟩,K⟩
   clear f5 f7 f26
   have f5:=ez
   have f7:=kQ
   have hlen:(List.replicate w 0++o).length=w+L:=by simp[aK]
   have lh:c<4294967296:=by omega
   have ap:=R.app (by omega) (by omega) c
   rw[hlen] at ap
   have ny:Small ((List.replicate w 0++o)++ [c]):=nK.2 ⟨nK.2 ⟨p2 w,aG⟩,ld.2 ⟨lh,Small.nil⟩⟩
   have fN:((List.replicate w 0++o)++ [c]).length=w+L+1:=by simp[aK];omega
   rw[Nat.mod_eq_of_lt aI] at aR
   have lq:val ((List.replicate w 0++o)++ [c])=a*2^n:=by
    rw[<-qZ,List.append_assoc,zS,lO,aK]
    simp only[val,Nat.mul_zero,Nat.add_zero];rw[aR]
   rw[Gs fN] at ap
   generalize (List.replicate w 0++o)++ [c]=xs at*
   rw[show (xs.map fun x=>J.int .u32 (Z x))=bU xs from rfl] at ap
   have o_:Kept h ⟨aF s.h.cells q (some (bU xs)),s.h.shut,s.h.next+6,s.h.bm⟩:=xn K q1 _ _ _ (by omega)
   obtain⟨v,av,aq,own⟩:=Av Y ⟨aF s.h.cells q (some (bU xs)),s.h.shut,s.h.next+6,s.h.bm⟩ (fun j=>by show s.h.shut j=false;rw[K.shut];exact bZ j) (q:=q) (o:=xs) ⟨by simp only[aF,if_true],R.c1,by show q<s.h.next+6;have:=R.et;omega⟩ ny (by omega) (by omega)
   rw[lq,fN] at*
   refine ao [4,5,7] ?_
   intro F
   simp only[an]
   intro ad ae au
   try simp[aJ,f5,f7] at ad ae au
   clear f5 f7
   have f4:=ad
   have f5:=ae
   have f7:=au
   clear ad ae au
   repeat' (first
    | refine aC ?_
    | ((fail_if_success (refine aT ?_));(fail_if_success (refine aU ?_));refine aO ?_)
    | ((first|(refine aD cr ?_;simp(disch:=omega) [ap,aq,f4,f5,f7];(try(refine⟨by first|decide|rfl,?_⟩)))|(refine aM ?_;simp(disch:=omega) [ap,aq,f4,f5,f7]));(try(refine ao [4,5,7] ?_;intro F;simp only[an];intro ad ae au;simp(disch:=omega) [ap,aq,f4,f5,f7] at ad ae au;clear f4 f5 f7;have f4:=ad;have f5:=ae;have f7:=au;clear ad ae au)))
    | (refine aL _ (by simp(disch:=omega) [ap,aq,f4,f5,f7];rfl) (fun I=>?_) (fun I=>?_)<;>first|(exfalso;simp(disch:=omega) [ap,aq] at I;done)|(exfalso;simp at I;omega)|(simp at I))
    | ((first|refine aH ?_|refine aQ ?_);simp(disch:=omega) [ap,aq,f4,f5,f7]))
   refine aH ?_
   simp[kL,f4]
   exact Own.trans o_ own
end
end
section
set_option maxHeartbeats 8000000
open Go Go.Eng Go.RowKit
theorem pa {α:Type} (f:Nat->α) (k:Nat) (a b:α):aF (aF f k a) k b=aF f k b:=by funext i;simp only[aF];split<;>rfl
abbrev gB (p:Int × Bool):J:= .agg [.bool (bK p.1),cF (ah p.1.natAbs) p.2]
def er (o:List (Int × Bool)):List J:=o.map gB
abbrev ec (o:List (Int × Bool)):List Int:=o.map Prod.fst
theorem oz (o:List (Int × Bool)):(er o).length=o.length:=by simp[er]
theorem Hd {o:List (Int × Bool)} {i:Nat} (h:i<o.length):(er o)[i]? =some (gB o[i]):=by simp[er,h]
theorem Aw (o:List (Int × Bool)) (i:Nat) (p:Int × Bool):(er o).set i (gB p)=er (o.set i p):=by simp[er,List.map_set]
theorem QM (o:List (Int × Bool)):(er o).all (fun e=>e.cells.length == 2)=true:=by simp[er,J.cells]
theorem He (o:List (Int × Bool)):(er o).all J.eA=true:=by simp[er,J.eA,J.cells,J.ew]
theorem Ax {o:List (Int × Bool)} (h:0<o.length):sizedB 2 (some (er o))=true:=by
 simp only[sizedB,QM,Bool.and_true,decide_eq_true_eq,oz];exact h
theorem Hf (o:List (Int × Bool)):kN (er o)=(ec o).map fun z=>bk z:=by
 rw[oZ,er,List.map_map,List.map_map]
 refine List.map_congr_left fun p _=>?_
 exact FG p.1 p.2
theorem Hg (l:List Int):(l.map fun z=>bk z)=er (l.map fun z=>(z,false)):=by simp[er]
theorem Hh (o:List (Int × Bool)) (i:Nat) (p:Int × Bool):ec (o.set i p)=(ec o).set i p.1:=by simp[ec,List.map_set]
theorem Ay (o:List (Int × Bool)):(ec o).length=o.length:=by simp
structure lk (h:aA) (q:Nat) (o:List (Int × Bool)):Prop where
 cells:h.cells q=some (er o)
 c1:h.shut q=false
 et:q<h.next
theorem lk.bump {h:aA} {q:Nat} {o:List (Int × Bool)} (V:lk h q o) (n:Nat) (p:Nat->Option fw) (ar:h.next<=n):lk ⟨h.cells,h.shut,n,p⟩ q o:=⟨V.cells,V.c1,Nat.lt_of_lt_of_le V.et ar⟩
theorem lk.kept {h av:aA} {q:Nat} {o:List (Int × Bool)} (V:lk h q o) (k:Kept h av):lk av q o:=⟨by rw[k.cells q V.et];exact V.cells,by rw[k.shut];exact V.c1,Nat.lt_of_lt_of_le V.et k.next⟩
theorem lk.put {h:aA} {q:Nat} {o:List (Int × Bool)} (V:lk h q o) (o':List (Int × Bool)) (n:Nat) (p:Nat->Option fw) (ar:h.next<=n):lk ⟨aF h.cells q (some (er o')),h.shut,n,p⟩ q o':=
 ⟨by simp only[aF,if_true],V.c1,Nat.lt_of_lt_of_le V.et ar⟩
theorem lk.off {h:aA} {p q:Nat} {o:List (Int × Bool)} (R:lk h p o) (bP:p≠q) (v:Option (List J)) (m:Nat) (gY:Nat->Option fw) (hm:h.next<=m):lk ⟨aF h.cells q v,h.shut,m,gY⟩ p o:=
 ⟨by show aF h.cells q v p=_;simp only[aF,if_neg bP];exact R.cells,R.c1,Nat.lt_of_lt_of_le R.et hm⟩
structure pb (h av:aA) (v:J) (o:List (Int × Bool)):Prop where
 kept:Kept h av
 val:(o= []/\v= .sl [] true)\/∃r,v= .ref r 0 o.length o.length/\h.next<=r/\lk av r o
theorem pb.trans {a b c:aA} {v:J} {o:List (Int × Bool)} (k:Kept a b) (x:pb b c v o):pb a c v o:=
 ⟨k.trans x.kept,x.val.imp id fun⟨r,ab,h2,aX⟩=>⟨r,ab,Nat.le_trans k.next h2,aX⟩⟩
theorem pb.out {h av:aA} {v:J} {o:List (Int × Bool)} (x:pb h av v o):∃ids e,∀m p,dG ⟨av.cells,av.shut,m,p⟩ v=some (.sl (er o) e,ids)/\fZ ⟨av.cells,av.shut,m,p⟩ v=some (.sl (er o) e,ids)/\gR ⟨av.cells,av.shut,m,p⟩ v=some (.sl (er o) e,ids):=by
 rcases x.val with⟨rfl,rfl⟩|⟨r,rfl,_,V⟩
 · exact⟨[],true,fun m p=>⟨rfl,rfl,rfl⟩⟩
 · have e:∀m p,dG ⟨av.cells,av.shut,m,p⟩ (.ref r 0 o.length o.length)=some (.sl (er o) false,[r]):=fun m p=>by
    rw[g2]
    simp only[V.cells,Nat.zero_add,oz,Nat.le_refl,He,and_self,if_true,List.drop_zero]
    rw[List.take_of_length_le (by rw[oz];exact Nat.le_refl _)]
   exact⟨[r],false,fun m p=>⟨e m p,e m p,e m p⟩⟩
theorem pb.outs {h av:aA} {v:J} {o:List (Int × Bool)} (x:pb h av v o):∃ids e,(∀m p,dG ⟨av.cells,av.shut,m,p⟩ v=some (.sl (er o) e,ids)/\fZ ⟨av.cells,av.shut,m,p⟩ v=some (.sl (er o) e,ids)/\gR ⟨av.cells,av.shut,m,p⟩ v=some (.sl (er o) e,ids))/\dG av v=some (.sl (er o) e,ids)/\fZ av v=some (.sl (er o) e,ids)/\gR av v=some (.sl (er o) e,ids):=by
 obtain⟨ids,e,aK⟩:=x.out
 exact⟨ids,e,aK,aK av.next av.bm⟩
def cw (p:List Int):Nat:=p.foldr (fun x m=>max (cb x) m) 0
theorem rk {L:Nat}:∀ {p:List Int},cw p<=L↔∀x∈p,cb x<=L
 | []=>by simp[cw]
 | x::p=>by
   have bC:=rk (L:=L) (p:=p)
   simp only[cw,List.foldr_cons,List.mem_cons,forall_eq_or_imp] at*
   rw[Nat.max_le,bC]
theorem Az (n:Nat):cb (n:Int)=(ah n).length:=by rw[cb,Int.natAbs_natCast]
theorem Hi:cb 0=0:=by simp[cb,fu]
theorem jR (p:List Int) (i:Nat):cb (p.getD i 0)<=cw p:=by
 by_cases h:i<p.length
 · exact rk.1 (Nat.le_refl _) _ (by simp[List.getD_eq_getElem?_getD,h])
 · simp[List.getD_eq_getElem?_getD,show p.length<=i by omega,Hi]
theorem vb {L:Nat} {p:List Int} (h:∀i,cb (p.getD i 0)<=L):cw p<=L:=rk.2 fun x ak=>by
 obtain⟨i,ag,rfl⟩:=List.getElem_of_mem ak
 have:=h i
 rwa [show p.getD i 0=p[i] by simp[List.getD_eq_getElem?_getD,ag]] at this
end
section
set_option maxHeartbeats 8000000
open Go Go.Eng Go.RowKit
def kH (ys:Nat->Int × Bool) (n i:Nat):List (Int × Bool):=(List.range i).map ys++List.replicate (n - i) (0,true)
theorem Hj (ys:Nat->Int × Bool) {n i:Nat} (h:i<=n):(kH ys n i).length=n:=by simp[kH];omega
theorem Hk (ys:Nat->Int × Bool) (n:Nat):kH ys n 0=List.replicate n (0,true):=by simp[kH]
theorem Hl (ys:Nat->Int × Bool) (n:Nat):kH ys n n=(List.range n).map ys:=by simp[kH]
theorem Hm (ys:Nat->Int × Bool) {n i:Nat} (h:i<n):(kH ys n i).set i (ys i)=kH ys n (i+1):=by
 obtain⟨m,hm⟩:∃m,n - i=m+1:=⟨n - i - 1,by omega⟩
 have Hn:n -(i+1)=m:=by omega
 rw[kH,kH,hm,Hn,List.range_succ,List.map_append,List.replicate_succ,List.append_assoc]
 rw[List.set_append_right _ _ (by simp)]
 simp
theorem QN:gB (0,true)= .agg [.bool false,.sl [] true]:=by
 simp only[gB,Int.natAbs_zero,fu,List.map_nil];rfl
theorem kZ (n:Nat):List.replicate n (J.agg [.bool false,.sl [] true])=er (List.replicate n (0,true)):=by
 rw[er,List.map_replicate,QN]
end
section
set_option maxHeartbeats 8000000
open Go Go.Eng Go.RowKit
attribute [local simp] bx.m bx.o bx.n bx.g gZ eQ df c7 dj evalOp.eq_1 evalOp.eq_2 evalOp.eq_3 evalOp.eq_4 evalOp.eq_5 evalOp.eq_6 evalOp.eq_7 evalOp.eq_8 evalOp.eq_9 evalOp.eq_10 evalOp.eq_11 evalOp.eq_12 evalOp.eq_13 evalOp.eq_14 evalOp.eq_15 evalOp.eq_16 evalOp.eq_17 evalOp.eq_18 evalOp.eq_19 evalOp.eq_20 evalOp.eq_21 evalOp.eq_22 evalOp.eq_23 evalOp.eq_24 evalOp.eq_25 evalOp.eq_27 evalOp.eq_28 evalOp.eq_29 jK bf.ev c6 aF aA.new bj J.cells J.c0 J.ew J.eA hF hH hG hI hK hJ iX iY iZ gm gn cut partOf bound elems ja jb jc jd je jf jg jh ji jj jk jl g2 jm jn jo jq jr js jt ju jv jw jx jy jz jA jB jC jD jE jF jG jH jI jJ eP eJ eB fA hL g0 aA.close aA.set hr jL jM jN i' g1 gv fT fs gf hn gM gg ho hp hq fx fy fz fv hM bY hj hN hk hO hP fq hQ fr hR hS hT gd iW hU hV hW hX hY hZ h0 h1 h3 h4 h5 h6 h7 h8 h9 h_ h' ia ib hl ic ie ig ih ij ik il im iq ir iu iv iw ix iy
attribute [local simp high] iT iU iV iz iA iB iC iD iE iF iG iH iI iJ iK iL iM iN iO iP iQ iR iS
attribute [local simp] aJ List.getElem?_cons_zero List.getElem?_cons_succ eH dp fP Nat.mod_eq_of_lt jY jZ j0 j1 fU j2 j3 j4
section
attribute [local irreducible] ck
attribute [local simp] ed ef dm pa
def xo (aJ:aA) (ys:Nat->Int × Bool) (n i:Nat) (s:a'):Prop:=∃q,s.F 5= .ref q 0 n n/\aJ.next<=q/\lk s.h q (kH ys n i)/\Kept aJ s.h
theorem Ho {h g:aA} (bZ:∀j,h.next<=j->h.shut j=false) (K:Kept h g):∀j,g.next<=j->g.shut j=false:=fun j aZ=>by
 rw[K.shut];exact bZ j (Nat.le_trans K.next aZ)
theorem Hp {tab:FuncId->Option (List J->Option J)} (Y:List c4) (h:aA) (bZ:∀j,h.next<=j->h.shut j=false) {st:FuncId} {caps:List J} (eo:tab st=none) {o:List (Int × Bool)} {e:Bool} {n:Nat} (ar:o.length=n) (aV:n<=1000000) (ys:Nat->Int × Bool)
 (B:aA->Prop) (a6:∀g e9,Kept g e9->B g->B e9) (aj:B h)
 (I:∀i p g,o[i]? =some p->B g->(∀j,g.next<=j->g.shut j=false)->∃e9,fi G (bb Tryz.prog) tab Y (.fn st) (bt i::gB p::caps) g=some (gB (ys i),e9)/\Kept g e9):
 ∃v av,fi G (bb Tryz.prog) tab Y (.fn 108) [.sl (er o) e,.fn st [] caps] h=some (v,av)/\pb h av v ((List.range n).map ys):=by
 refine kM EF ?_
 have kr:Z n*32<=140737488355328:=by simp only[Z];omega
 have wF:=fun j (aZ:h.next<=j)=>bZ j aZ
 unfold i108
 refine ao [0,1,4,5,6,7,11,12,13,14] fun F=>?_
 simp only[an]
 intro f0 f1 f4 f5 f6 f7 f11 f12 f13 f14
 simp[bj] at f0 f1 f4 f5 f6 f7 f11 f12 f13 f14
 repeat' (first
  | refine aC ?_
  | ((fail_if_success (refine aT ?_));(fail_if_success (refine aU ?_));refine aO ?_)
  | ((first|(refine aD cr ?_;simp(disch:=omega) [oz,ar,kr,kZ,f0,f1,f4,f5,f6,f7,f11,f12,f13,f14];(try(refine⟨by first|decide|rfl,?_⟩)))|(refine aM ?_;simp(disch:=omega) [oz,ar,kr,kZ,f0,f1,f4,f5,f6,f7,f11,f12,f13,f14]));(try(refine ao [0,1,4,5,6,7,11,12,13,14] ?_;intro F;simp only[an];intro U aa ad ae ai au bl a9 aY bq;simp(disch:=omega) [oz,ar,kr,kZ,f0,f1,f4,f5,f6,f7,f11,f12,f13,f14] at U aa ad ae ai au bl a9 aY bq;clear f0 f1 f4 f5 f6 f7 f11 f12 f13 f14;have f0:=U;have f1:=aa;have f4:=ad;have f5:=ae;have f6:=ai;have f7:=au;have f11:=bl;have f12:=a9;have f13:=aY;have f14:=bq;clear U aa ad ae ai au bl a9 aY bq)))
  | (refine aL _ (by simp(disch:=omega) [oz,ar,kr,kZ,f0,f1,f4,f5,f6,f7,f11,f12,f13,f14];rfl) (fun I=>?_) (fun I=>?_)<;>first|(exfalso;simp(disch:=omega) [oz,ar,kr,kZ] at I;done)|(exfalso;simp at I;omega)|(simp at I))
  | ((first|refine aH ?_|refine aQ ?_);simp(disch:=omega) [oz,ar,kr,kZ,f0,f1,f4,f5,f6,f7,f11,f12,f13,f14]))
 refine kO n (fun i s=>xo h ys n i s/\s.F 13=bt i) (xo h ys n n) (fun _=>False) ?_ ?_ ?_ (fun _ _ h=>h.elim)
 · refine⟨⟨_,f5,by omega,?_,(Kept.sC h).new _ _ (by omega) (by omega)⟩,f13⟩
   rw[Hk]
   exact⟨by simp[aF],bZ _ (by omega),by simp⟩
 · rintro i s ag aE ⟨⟨q,ez,bc,V,K⟩,u_⟩
   replace f1:=(aE 1 rfl).trans f1;replace f11:=(aE 11 rfl).trans f11;replace f12:=(aE 12 rfl).trans f12
   clear f5 f13
   have f5:=ez
   have f13:=u_
   refine ao [1,5,6,7,11,12,13,14] ?_
   intro F
   simp only[an]
   intro aa ae ai au bl a9 aY bq
   try simp[aJ,f1,f5,f11,f12,f13] at aa ae ai au bl a9 aY bq
   clear f1 f5 f11 f12 f13
   have f1:=aa
   have f5:=ae
   have f6:=ai
   have f7:=au
   have f11:=bl
   have f12:=a9
   have f13:=aY
   have f14:=bq
   clear aa ae ai au bl a9 aY bq
   by_cases aW:i<n
   · obtain⟨p,a4⟩:∃p,o[i]? =some p:=⟨o[i],List.getElem?_eq_getElem (by omega)⟩
     have cR:(er o)[i]? =some (gB p):=by simp[er,a4]
     have xp:=V.et
     have fN:=Hj ys (show i<=n by omega)
     have cy:=Ax (o:=kH ys n i) (by omega)
     have go:=Hd (o:=kH ys n i) (i:=i) (by omega)
     have st:=Aw (kH ys n i) i (ys i)
     rw[Hm ys aW] at st
     have wZ:=K.next
     have o_:Kept h ⟨aF s.h.cells (s.h.next+1+3) (some [gB p]),s.h.shut,s.h.next+1+6+8,s.h.bm⟩:=K.new _ _ (by omega) (by omega)
     obtain⟨e9,mB,rl⟩:=I i p ⟨aF s.h.cells (s.h.next+1+3) (some [gB p]),s.h.shut,s.h.next+1+6+8,s.h.bm⟩ a4 (a6 _ _ o_ aj) (Ho bZ o_)
     have vc:lk ⟨aF s.h.cells (s.h.next+1+3) (some [gB p]),s.h.shut,s.h.next+1+6+8,s.h.bm⟩ q (kH ys n i):=V.off (by omega) _ _ _ (by omega)
     have nQ:=vc.kept rl
     have b3:=nQ.cells
     have c2:=nQ.c1
     have nR:=o_.trans rl
     have AA:=rl.next
     simp only at AA
     have mC:s.h.shut (s.h.next+1+3)=false:=by rw[K.shut];exact bZ _ (by omega)
     repeat' (first
      | refine aC ?_
      | ((fail_if_success (refine aT ?_));(fail_if_success (refine aU ?_));refine aO ?_)
      | ((first|(refine aD cr ?_;simp(disch:=omega) [aW,cR,eo,mB,b3,c2,cy,go,st,mC,f1,f5,f6,f7,f11,f12,f13,f14];(try(refine⟨by first|decide|rfl,?_⟩)))|(refine aM ?_;simp(disch:=omega) [aW,cR,eo,mB,b3,c2,cy,go,st,mC,f1,f5,f6,f7,f11,f12,f13,f14]));(try(refine ao [1,5,6,7,11,12,13,14] ?_;intro F;simp only[an];intro aa ae ai au bl a9 aY bq;simp(disch:=omega) [aW,cR,eo,mB,b3,c2,cy,go,st,mC,f1,f5,f6,f7,f11,f12,f13,f14] at aa ae ai au bl a9 aY bq;clear f1 f5 f6 f7 f11 f12 f13 f14;have f1:=aa;have f5:=ae;have f6:=ai;have f7:=au;have f11:=bl;have f12:=a9;have f13:=aY;have f14:=bq;clear aa ae ai au bl a9 aY bq)))
      | (refine aL _ (by simp(disch:=omega) [aW,cR,eo,mB,b3,c2,cy,go,st,mC,f1,f5,f6,f7,f11,f12,f13,f14];rfl) (fun I=>?_) (fun I=>?_)<;>first|(exfalso;simp(disch:=omega) [aW,cR,eo,mB,b3,c2,cy,go,st,mC] at I;done)|(exfalso;simp at I;omega)|(simp at I))
      | ((first|refine aH ?_|refine aQ ?_);simp(disch:=omega) [aW,cR,eo,mB,b3,c2,cy,go,st,mC,f1,f5,f6,f7,f11,f12,f13,f14]))
     exact⟨q,f5,bc,nQ.put _ _ _ (by omega),xn nR bc _ _ _ (by omega)⟩
   · obtain rfl:i=n:=by omega
     repeat' (first
      | refine aC ?_
      | ((fail_if_success (refine aT ?_));(fail_if_success (refine aU ?_));refine aO ?_)
      | ((first|(refine aD cr ?_;simp(disch:=omega) [f1,f5,f6,f7,f11,f12,f13,f14];(try(refine⟨by first|decide|rfl,?_⟩)))|(refine aM ?_;simp(disch:=omega) [f1,f5,f6,f7,f11,f12,f13,f14]));(try(refine ao [1,5,6,7,11,12,13,14] ?_;intro F;simp only[an];intro aa ae ai au bl a9 aY bq;simp(disch:=omega) [f1,f5,f6,f7,f11,f12,f13,f14] at aa ae ai au bl a9 aY bq;clear f1 f5 f6 f7 f11 f12 f13 f14;have f1:=aa;have f5:=ae;have f6:=ai;have f7:=au;have f11:=bl;have f12:=a9;have f13:=aY;have f14:=bq;clear aa ae ai au bl a9 aY bq)))
      | (refine aL _ (by simp(disch:=omega) [f1,f5,f6,f7,f11,f12,f13,f14];rfl) (fun I=>?_) (fun I=>?_)<;>first|(exfalso;simp(disch:=omega) at I;done)|(exfalso;simp at I;omega)|(simp at I))
      | ((first|refine aH ?_|refine aQ ?_);simp(disch:=omega) [f1,f5,f6,f7,f11,f12,f13,f14]))
     exact⟨q,f5,bc,V.bump _ _ (by omega),K.bump _ (by omega)⟩
 · rintro s aE ⟨q,ez,bc,V,K⟩
   clear f5 f13
   have f5:=ez
   refine ao [4,5] ?_
   intro F
   simp only[an]
   intro ad ae
   try simp[aJ,f5] at ad ae
   clear f5
   have f4:=ad
   have f5:=ae
   clear ad ae
   rw[Hl] at V
   repeat' (first
    | refine aC ?_
    | ((fail_if_success (refine aT ?_));(fail_if_success (refine aU ?_));refine aO ?_)
    | ((first|(refine aD cr ?_;simp(disch:=omega) [f4,f5];(try(refine⟨by first|decide|rfl,?_⟩)))|(refine aM ?_;simp(disch:=omega) [f4,f5]));(try(refine ao [4,5] ?_;intro F;simp only[an];intro ad ae;simp(disch:=omega) [f4,f5] at ad ae;clear f4 f5;have f4:=ad;have f5:=ae;clear ad ae)))
    | (refine aL _ (by simp(disch:=omega) [f4,f5];rfl) (fun I=>?_) (fun I=>?_)<;>first|(exfalso;simp(disch:=omega) at I;done)|(exfalso;simp at I;omega)|(simp at I))
    | ((first|refine aH ?_|refine aQ ?_);simp(disch:=omega) [f4,f5]))
   refine aH ?_
   simp[kL,f4]
   exact⟨K.bump _ (by omega),.inr ⟨q,by simp,bc,V.bump _ _ (by omega)⟩⟩
end
section
attribute [local irreducible] ck
attribute [local simp] ed ef dm
theorem QO (u v x y:Nat):((decide (u<x)=decide (v<y))->(u+x)*(v+y)+(if u<x then x - u else u - x)*(if v<y then y - v else v - y)=2*(u*v+x*y)/\(u+x)*(v+y) -(if u<x then x - u else u - x)*(if v<y then y - v else v - y)=2*(u*y+x*v))/\
 ((decide (u<x)≠decide (v<y))->(u+x)*(v+y) -(if u<x then x - u else u - x)*(if v<y then y - v else v - y)=2*(u*v+x*y)/\(u+x)*(v+y)+(if u<x then x - u else u - x)*(if v<y then y - v else v - y)=2*(u*y+x*v)):=by
 by_cases ab:u<x<;>by_cases h2:v<y<;>simp only[ab,h2,decide_true,decide_false,if_true,if_false,ne_eq,not_true,not_false_eq_true,false_implies,true_implies,and_true,true_and,Bool.true_eq_false,Bool.false_eq_true]
 · obtain⟨d,rfl⟩:∃d,x=u+d:=⟨x - u,by omega⟩
   obtain⟨e,rfl⟩:∃e,y=v+e:=⟨y - v,by omega⟩
   rw[Nat.add_sub_cancel_left,Nat.add_sub_cancel_left]
   exact⟨by grind,Nat.sub_eq_of_eq_add (by grind)⟩
 · obtain⟨d,rfl⟩:∃d,x=u+d:=⟨x - u,by omega⟩
   obtain⟨e,rfl⟩:∃e,v=y+e:=⟨v - y,by omega⟩
   rw[Nat.add_sub_cancel_left,Nat.add_sub_cancel_left]
   exact⟨Nat.sub_eq_of_eq_add (by grind),by grind⟩
 · obtain⟨d,rfl⟩:∃d,u=x+d:=⟨u - x,by omega⟩
   obtain⟨e,rfl⟩:∃e,y=v+e:=⟨y - v,by omega⟩
   rw[Nat.add_sub_cancel_left,Nat.add_sub_cancel_left]
   exact⟨Nat.sub_eq_of_eq_add (by grind),by grind⟩
 · obtain⟨d,rfl⟩:∃d,u=x+d:=⟨u - x,by omega⟩
   obtain⟨e,rfl⟩:∃e,v=y+e:=⟨v - y,by omega⟩
   rw[Nat.add_sub_cancel_left,Nat.add_sub_cancel_left]
   exact⟨by grind,Nat.sub_eq_of_eq_add (by grind)⟩
theorem QP (x0 x1 x2 y0 y1 dU:Nat):∃E O b5 eR dY dc cz cq db dg u:Nat,
 b5=(x0+x2+x1)*(y0+dU+y1)/\eR=lS x0 x1 x2*lS y0 y1 dU/\dY=(x0+(x1*2^1+x2*2^2))*(y0+(y1*2^1+dU*2^2))/\dc=x0*y0/\dg=x2*dU/\
 (decide (x0+x2<x1)=decide (y0+dU<y1)->b5+eR=E/\b5 - eR=O)/\(decide (x0+x2<x1)≠decide (y0+dU<y1)->b5 - eR=E/\b5+eR=O)/\
 E/2^1 -(dc+dg)=cq/\dY -(dc+(cq*2^2+dg*2^4))=u/\(u/2^1 - O/2^1)%3=0/\(u/2^1 - O/2^1)/3=db/\O/2^1 - db=cz/\
 (∀x∈ [b5,eR,dY,E,O,dc,cz,cq,db,dg,dc+dg,E/2^1,O/2^1,cq*2^2,dg*2^4,cq*2^2+dg*2^4,dc+(cq*2^2+dg*2^4),u,u/2^1,u/2^1 - O/2^1],x<=2*b5+dY)/\
 cz=x0*y1+x1*y0/\cq=x0*dU+x2*y0+x1*y1/\db=x1*dU+x2*y1:=by
 obtain⟨ab,h2⟩:=QO (x0+x2) (y0+dU) x1 y1
 obtain⟨dc,hb⟩:∃c,c=x0*y0:=⟨_,rfl⟩
 obtain⟨cz,pZ⟩:∃c,c=x0*y1+x1*y0:=⟨_,rfl⟩
 obtain⟨cq,kA⟩:∃c,c=x0*dU+x2*y0+x1*y1:=⟨_,rfl⟩
 obtain⟨db,td⟩:∃c,c=x1*dU+x2*y1:=⟨_,rfl⟩
 obtain⟨dg,rm⟩:∃c,c=x2*dU:=⟨_,rfl⟩
 have QQ:(x0+x2)*(y0+dU)+x1*y1=dc+cq+dg:=by rw[hb,kA,rm];grind
 have yy:(x0+x2)*y1+x1*(y0+dU)=cz+db:=by rw[pZ,td];grind
 have aq:(x0+x2+x1)*(y0+dU+y1)=dc+cz+cq+db+dg:=by rw[hb,pZ,kA,td,rm];grind
 have aB:(x0+(x1*2^1+x2*2^2))*(y0+(y1*2^1+dU*2^2))=dc+2*cz+4*cq+8*db+16*dg:=by rw[hb,pZ,kA,td,rm];grind
 rw[QQ,yy,show (if x0+x2<x1 then x1 -(x0+x2) else x0+x2 - x1)=lS x0 x1 x2 from rfl,show (if y0+dU<y1 then y1 -(y0+dU) else y0+dU - y1)=lS y0 y1 dU from rfl,aq] at ab h2
 generalize lS x0 x1 x2*lS y0 y1 dU=eR at*
 have tc:eR<=dc+cz+cq+db+dg\/dc+cz+cq+db+dg<eR:=by omega
 refine⟨2*(dc+cq+dg),2*(cz+db),_,eR,_,dc,cz,cq,db,dg,2*(cz+4*db),aq.symm,rfl,aB.symm,hb,rm,ab,h2,by omega,by omega,by omega,by omega,by omega,?_,pZ,kA,td⟩
 have tc:eR<=dc+cz+cq+db+dg:=by
  by_cases h:decide (x0+x2<x1)=decide (y0+dU<y1)
  · have:=ab h;omega
  · have:=h2 h;omega
 intro x ak
 simp only[List.mem_cons,List.not_mem_nil,or_false] at ak
 omega
theorem QR {E O b5 eR dY dc cz cq db dg u:Nat} (aP:(ah (2*b5+dY)).length<=1000000)
 (te:∀x∈ [b5,eR,dY,E,O,dc,cz,cq,db,dg,dc+dg,E/2^1,O/2^1,cq*2^2,dg*2^4,cq*2^2+dg*2^4,dc+(cq*2^2+dg*2^4),u,u/2^1,u/2^1 - O/2^1],x<=2*b5+dY)
 (h2:E/2^1 -(dc+dg)=cq) (hu:dY -(dc+(cq*2^2+dg*2^4))=u) (AB:(u/2^1 - O/2^1)%3=0) (aX:(u/2^1 - O/2^1)/3=db) (ab:O/2^1 - db=cz):
 ∃v1 v2 nS v4 pc v6 p_ p' qa:Nat,g5 [aw b5,aw eR]=some (aw (b5+eR))/\kG [aw b5,aw eR]=some (aw (b5 - eR))/\lQ [aw E,bt 1]=some (aw v4)/\lQ [aw O,bt 1]=some (aw nS)/\g5 [aw dc,aw dg]=some (aw qa)/\kG [aw v4,aw qa]=some (aw cq)/\
  lB [aw cq,bt 2]=some (aw p_)/\lB [aw dg,bt 4]=some (aw p')/\g5 [aw p_,aw p']=some (aw v6)/\g5 [aw dc,aw v6]=some (aw pc)/\kG [aw dY,aw pc]=some (aw u)/\lQ [aw u,bt 1]=some (aw v2)/\kG [aw v2,aw nS]=some (aw v1)/\rf [aw v1]=some (aw db)/\kG [aw nS,aw db]=some (aw cz):=by
 have sz:∀x,x∈ [b5,eR,dY,E,O,dc,cz,cq,db,dg,dc+dg,E/2^1,O/2^1,cq*2^2,dg*2^4,cq*2^2+dg*2^4,dc+(cq*2^2+dg*2^4),u,u/2^1,u/2^1 - O/2^1]->∀n,1000000<=n->(ah x).length<=n:=fun x ak n ar=>Nat.le_trans (fW (te x ak)) (Nat.le_trans aP ar)
 have cO:∀x y,(∀n,1000000<=n->(ah x).length<=n)->(∀n,1000000<=n->(ah y).length<=n)->g5 [aw x,aw y]=some (aw (x+y)):=fun x y ak bd=>mr (ak _ (by decide)) (bd _ (by decide))
 have le:∀x y,(∀n,1000000<=n->(ah x).length<=n)->(∀n,1000000<=n->(ah y).length<=n)->kG [aw x,aw y]=some (aw (x - y)):=fun x y ak bd=>An (x,y) ⟨ak _ (by decide),bd _ (by decide)⟩ (by simp)
 have AD:∀x,(∀n,1000000<=n->(ah x).length<=n)->lQ [aw x,bt 1]=some (aw (x/2^1)):=fun x ak=>GG (x,1) ⟨ak _ (by decide),show 1<=10000000000 by decide⟩ (by simp)
 have sl:∀x k,k<=4->(∀n,1000000<=n->(ah x).length<=n)->lB [aw x,bt k]=some (aw (x*2^k)):=fun x k aE ak=>q6 (ak _ (by decide)) (by omega)
 have jS:rf [aw (u/2^1 - O/2^1)]=some (aw ((u/2^1 - O/2^1)/3)):=P8 _ ⟨sz _ (by simp) _ (by decide),AB⟩ (by simp)
 rw[aX] at jS
 refine⟨u/2^1 - O/2^1,u/2^1,O/2^1,E/2^1,dc+(cq*2^2+dg*2^4),cq*2^2+dg*2^4,cq*2^2,dg*2^4,dc+dg,cO _ _ (sz _ (by simp)) (sz _ (by simp)),le _ _ (sz _ (by simp)) (sz _ (by simp)),AD _ (sz _ (by simp)),AD _ (sz _ (by simp)),cO _ _ (sz _ (by simp)) (sz _ (by simp)),?_,sl _ _ (by decide) (sz _ (by simp)),sl _ _ (by decide) (sz _ (by simp)),cO _ _ (sz _ (by simp)) (sz _ (by simp)),cO _ _ (sz _ (by simp)) (sz _ (by simp)),?_,AD _ (sz _ (by simp)),le _ _ (sz _ (by simp)) (sz _ (by simp)),jS,?_⟩
 · have:=le (E/2^1) (dc+dg) (sz _ (by simp)) (sz _ (by simp));rwa [h2] at this
 · have:=le dY (dc+(cq*2^2+dg*2^4)) (sz _ (by simp)) (sz _ (by simp));rwa [hu] at this
 · have:=le (O/2^1) db (sz _ (by simp)) (sz _ (by simp));rwa [ab] at this
def mD (k:Nat) (cs:List Nat):Nat->Nat
 | 0=>0
 | i+1=>mD k cs i+aS cs i*2^(32*k*i)
theorem QS (k x0 x1 x2 y0 y1 dU:Nat):mD k [x0*y0,x0*y1+x1*y0,x0*dU+x2*y0+x1*y1,x1*dU+x2*y1,x2*dU] 5=(x0+ay k*(x1+ay k*x2))*(y0+ay k*(y1+ay k*dU)):=by
 rw[lf]
 simp only[mD,zF,wH]
 rw[Nat.mul_zero,Nat.pow_zero,Nat.mul_one (32*k),show 32*k*2=32*k+32*k by omega,show 32*k*3=32*k+32*k+32*k by omega,show 32*k*4=32*k+32*k+32*k+32*k by omega]
 simp only[Nat.pow_add]
 generalize 2^(32*k)=P
 grind
theorem AE:∀z w:Nat × Nat,(fun z:Nat × Nat=>[aw z.1,aw z.2]) z=(fun z:Nat × Nat=>[aw z.1,aw z.2]) w->(fun z:Nat × Nat=>aw (z.1*z.2)) z=(fun z:Nat × Nat=>aw (z.1*z.2)) w:=fun z w h=>by simp only at h|-;first|(simp only[List.cons.injEq,J.int.injEq,J.bool.injEq,J.sl.injEq,cl,cm,ct,cu,cp,b2,b6,cn,bY,true_and,and_true] at h;simp[h];done)|(simp only[J.agg.injEq,List.cons.injEq,J.int.injEq,J.bool.injEq,J.sl.injEq,cl,cm,ct,cu,cp,b2,b6,cn,bY,true_and,and_true] at h;simp[h])
noncomputable def vd:List J->Option J:=cd (fun z:Nat × Nat=>(ah z.1).length<=500000/\(ah z.2).length<=500000) (fun z:Nat × Nat=>[aw z.1,aw z.2]) (fun z:Nat × Nat=>aw (z.1*z.2))
theorem QT (z:Nat × Nat) (h:(ah z.1).length<=500000/\(ah z.2).length<=500000) {args:List J} (he:args.map J.loose= [aw z.1,aw z.2]):vd args=some (aw (z.1*z.2)):=cU AE z h he
noncomputable def nT (N:Nat):List J->Option J:=cd (fun z:Nat × Nat=>((ah z.1).length<=500000/\(ah z.2).length<=500000)/\(max (ah z.1).length (ah z.2).length)<N) (fun z:Nat × Nat=>[aw z.1,aw z.2]) (fun z:Nat × Nat=>aw (z.1*z.2))
theorem ve {N:Nat} (z:Nat × Nat) (h:((ah z.1).length<=500000/\(ah z.2).length<=500000)/\(max (ah z.1).length (ah z.2).length)<N) {args:List J} (he:args.map J.loose= [aw z.1,aw z.2]):nT N args=some (aw (z.1*z.2)):=cU AE z h he
theorem QU (h:∀N,br Tryz.prog G 201 (nT N)->br Tryz.prog G 201 (nT (N+1))):br Tryz.prog G 201 vd:=En AE (fun z:Nat × Nat=>max (ah z.1).length (ah z.2).length) h
noncomputable def mE (N:Nat):FuncId->Option (List J->Option J):=dn [(201,nT N),(202,q'),(252,p8),(256,s6),(257,kG),(258,rf),(174,g5),(172,lB),(173,lQ)]
theorem QV {N:Nat} (h:br Tryz.prog G 201 (nT N)):∀f T,mE N f=some T->br Tryz.prog G f T:=dr (by simp only[List.forall_mem_cons];exact⟨h,GY,GW,Qe,Ao,P9,sT,w2,Ac,fun _ h=>absurd h (by simp)⟩)
theorem Hq (N:Nat):mE N 201=some (nT N):=rfl
theorem Hr (N:Nat):mE N 202=some q':=rfl
theorem Hs (N:Nat):mE N 252=some p8:=rfl
theorem Ht (N:Nat):mE N 256=some s6:=rfl
theorem Hu (N:Nat):mE N 257=some kG:=rfl
theorem Hv (N:Nat):mE N 258=some rf:=rfl
theorem Hw (N:Nat):mE N 174=some g5:=rfl
theorem Hx (N:Nat):mE N 172=some lB:=rfl
theorem Hy (N:Nat):mE N 173=some lQ:=rfl
theorem Hz (N:Nat):mE N 255=none:=rfl
attribute [local simp] Hq Hr Hs Ht Hu Hv Hw Hx Hy Hz
theorem HA (N:Nat) (Y:List c4) (h:aA) {a k n p q:Nat} (aE:h.cells p=some [bt k]) (ar:h.cells q=some [bt n]) (QW:p<h.next) (q1:q<h.next) (bZ:h.shut h.next=false) (cE:(ah a).length<=500000) (lR:2*k<=n) (dP:n<=500000):
 fi G (bb Tryz.prog) (mE N) Y (.fn 255) [aw a,.ptr p 0 0,.ptr q 0 0] h=some (.agg [aw (a%ay k),aw (a%ay (2*k)/ay k),aw (a%ay n/ay (2*k))],⟨aF (aF h.cells h.next (some [.agg [.sl [] true,.sl [] true,.sl [] true]])) h.next (some [.agg [aw (a%ay k),aw (a%ay (2*k)/ay k),aw (a%ay n/ay (2*k))]]),h.shut,h.next+16,h.bm⟩):=by
 have k_:=u9 (a,0,k) ⟨by simp only;omega,Nat.zero_le _,by simp only;omega⟩ (args:=[aw a,bt 0,bt k]) (by simp)
 have dS:=u9 (a,k,2*k) ⟨by simp only;omega,by simp only;omega,by simp only;omega⟩ (args:=[aw a,bt k,bt (2*k)]) (by simp)
 have fC:=u9 (a,2*k,n) ⟨by simp only;omega,by simp only;omega,by simp only;omega⟩ (args:=[aw a,bt (2*k),bt n]) (by simp)
 simp only[ft,Nat.div_one] at k_ dS fC
 have b4:IntKind.i64.wrap (Z 2*Z k)=Z (2*k):=sy (by omega)
 generalize a%ay k=x0 at*
 generalize a%ay (2*k)/ay k=x1 at*
 generalize a%ay n/ay (2*k)=x2 at*
 generalize 2*k=Wr at*
 obtain⟨v,av,e,rfl,rfl⟩:=kM (Φ:=bb Tryz.prog) (G:=G) (tab:=mE N) (Y:=Y) (h:=h) (args:=[aw a,.ptr p 0 0,.ptr q 0 0]) (R:=fun v av=>v= .agg [aw x0,aw x1,aw x2]/\av=⟨aF (aF h.cells h.next (some [.agg [.sl [] true,.sl [] true,.sl [] true]])) h.next (some [.agg [aw x0,aw x1,aw x2]]),h.shut,h.next+16,h.bm⟩) Fh (by
  unfold i255
  refine ao [0,1,2,4] fun F=>?_
  simp only[an]
  intro f0 f1 f2 f4
  simp[bj] at f0 f1 f2 f4
  repeat' (first
   | refine aC ?_
   | ((fail_if_success (refine aT ?_));(fail_if_success (refine aU ?_));refine aO ?_)
   | ((first|(refine aD cr ?_;simp(disch:=omega) [aE,ar,bZ,k_,dS,fC,b4,Nat.add_assoc,f0,f1,f2,f4];(try(refine⟨by first|decide|rfl,?_⟩)))|(refine aM ?_;simp(disch:=omega) [aE,ar,bZ,k_,dS,fC,b4,Nat.add_assoc,f0,f1,f2,f4]));(try(refine ao [0,1,2,4] ?_;intro F;simp only[an];intro U aa af ad;simp(disch:=omega) [aE,ar,bZ,k_,dS,fC,b4,Nat.add_assoc,f0,f1,f2,f4] at U aa af ad;clear f0 f1 f2 f4;have f0:=U;have f1:=aa;have f2:=af;have f4:=ad;clear U aa af ad)))
   | (refine aL _ (by simp(disch:=omega) [aE,ar,bZ,k_,dS,fC,b4,Nat.add_assoc,f0,f1,f2,f4];rfl) (fun I=>?_) (fun I=>?_)<;>first|(exfalso;simp(disch:=omega) [aE,ar,bZ,k_,dS,fC,b4,Nat.add_assoc] at I;done)|(exfalso;simp at I;omega)|(simp at I))
   | ((first|refine aH ?_|refine aQ ?_);simp(disch:=omega) [aE,ar,bZ,k_,dS,fC,b4,Nat.add_assoc,f0,f1,f2,f4]))
  refine aH ?_
  simp[kL,f4])
 exact e
theorem HB {k:Nat} (u v w:Nat) (hu:(ah u).length<=k) (aR:(ah v).length<=k) (hw:(ah w).length<=k):(ah (u+w+v)).length<=k+2/\(ah (lS u v w)).length<=k+2/\(ah (u+(v*2^1+w*2^2))).length<=k+3:=by
 have Ws:(ah (2^1)).length<=1:=c5.2 (by rw[sE];decide)
 have Wt:(ah (2^2)).length<=1:=c5.2 (by rw[sE];decide)
 have a1:=kk u w
 have eC:=kk (u+w) v
 have yO:=kP v (2^1)
 have Wu:=kP w (2^2)
 have Wv:=kk (v*2^1) (w*2^2)
 have Ww:=kk u (v*2^1+w*2^2)
 have QX:lS u v w<=u+w+v:=by unfold lS;split<;>omega
 have Wx:=fW QX
 omega
end
end
end Go.Proofs.YtemiagcencajeaaGreatDoor
