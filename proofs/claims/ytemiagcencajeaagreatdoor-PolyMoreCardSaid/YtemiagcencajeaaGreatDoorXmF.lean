/- What the claim needs of the walks, put together by a program (shake.py). -/
import Derived.Test.YtemiagcencajeaaGreatDoorXmE
set_option maxRecDepth 100000
set_option linter.unusedSimpArgs false
set_option linter.unusedVariables false
set_option linter.unusedSectionVars false
namespace Go.Proofs.YtemiagcencajeaaGreatDoor
section
set_option maxHeartbeats 8000000
open Go Go.Eng Go.RowKit
theorem WQ {m o o' P B y r x a1 z:Nat} (hm:o'+P*y=o+P*(z/m)) (aQ:y=0) (h:m*o+P*B*r=P*B*a1) (av:z=r*B+x):m*o'+P*(z%m)=P*(x+B*a1):=by
 subst aQ
 have e:P*(m*(z/m)+z%m)=P*z:=by rw[Nat.div_add_mod]
 rw[av] at e|-
 rw[av] at hm
 generalize (r*B+x)/m=q at*
 generalize (r*B+x)%m=t at*
 grind
end
section
set_option maxHeartbeats 8000000
open Go Go.Eng Go.RowKit
attribute [local simp] aY.m aY.o aY.n aY.g fg eF cV cJ c4 evalOp.eq_1 evalOp.eq_2 evalOp.eq_3 evalOp.eq_4 evalOp.eq_5 evalOp.eq_6 evalOp.eq_7 evalOp.eq_8 evalOp.eq_9 evalOp.eq_10 evalOp.eq_11 evalOp.eq_12 evalOp.eq_13 evalOp.eq_14 evalOp.eq_15 evalOp.eq_16 evalOp.eq_17 evalOp.eq_18 evalOp.eq_19 evalOp.eq_20 evalOp.eq_21 evalOp.eq_22 evalOp.eq_23 evalOp.eq_24 evalOp.eq_25 evalOp.eq_27 evalOp.eq_28 evalOp.eq_29 iK aR.ev cI ar ai.new ec I.cells I.cb I.eb I.ei gL gN gM gO gQ gP hY hZ h0 fM fN cut partOf bound elems h4 h5 h6 h7 h8 h9 h_ ia ib ic ie ig gh ih ij ik il im iq ir iu iv iw ix iy iz iA iB iC iD iE iF iG iH iI iJ eE eo dZ e6 gR gf ai.close ai.set gy iL iM iN h3 gg fh eY dv e8 gu fQ e9 gv gw gx e3 e4 e5 e2 gS bp gq gT gr gU gV eW gW eX gX gY gZ fG hX g0 g1 g2 g3 g4 g5 g6 g7 g8 g9 g_ g' ha hb hc hd hf hg hh fP hi hj hk hl hn ho hp hq hr hs ht hv hx hy hz
attribute [local simp high] hU hV hW hA hB hC hD hE hF hG hH hI hJ hK hL hM hN hO hP hQ hR hS hT
attribute [local simp] aF List.getElem?_cons_zero List.getElem?_cons_succ dD cQ fq Nat.mod_eq_of_lt iV iW iX iY fz iZ i_ i'
section
attribute [local irreducible] a'
attribute [local simp] c2 cN cq
noncomputable def q6:FuncId->Option (List I->Option I):=cf [(170,kG),(282,zE)]
theorem WR:∀f T,q6 f=some T->aG Tryz.prog G f T:=cg (by simp only[List.forall_mem_cons];exact ⟨p7,WH,fun _ h=>absurd h (by simp)⟩)
theorem WS:q6 170=some kG:=rfl
theorem WT:q6 282=some zE:=rfl
theorem WU:q6 281=none:=rfl
theorem WV:q6 293=none:=rfl
attribute [local simp] WS WT WU WV
structure sL (bW cL c1 q y a m L i:Nat) (o:List Nat) (r:Nat) (h:ai):Prop where
 ol:o.length=L
 os:Small o
 D3:∀j,j<i->aD o j=0
 eU:r<m
 eq:m*val o+aj i*r=aj i*(a/aj i)
 cr:h.cells bW=some [bl m]
 j5:h.cells cL=some [.ref q 0 L L]
 n8:h.cells c1=some [bl r]
 lI:h.cells q=some (bm o)
 lJ:h.shut q=false
 oj:h.shut c1=false
 jz:h.aU y=some .ready
 sM:y<h.next
theorem sL.bump {bW cL c1 q y a m L i:Nat} {o:List Nat} {r:Nat} {h:ai} (ah:sL bW cL c1 q y a m L i o r h) (n:Nat) (ak:h.next<=n):sL bW cL c1 q y a m L i o r ⟨h.cells,h.shut,n,h.aU⟩:=
 ⟨ah.ol,ah.os,ah.D3,ah.eU,ah.eq,ah.cr,ah.j5,ah.n8,ah.lI,ah.lJ,ah.oj,ah.jz,Nat.lt_of_lt_of_le ah.sM ak⟩
theorem WW (Y:List cy) {F:Nat->I} {a m L i:Nat} (f3:F 3= .ptr 0 0 0) (f7:F 7= .ptr 9 0 0) (f8:F 8= .ptr 11 0 0) {h:ai} {o:List Nat} {r:Nat} (hm:m<4294967296) (ah:sL 0 9 11 8 18 a m L (i+1) o r h) (ab:i<L):
 ∃u h',eB G (aH Tryz.prog) q6 (⟨18,F,[18,19],(.seq (.region false [⟨(some 9),(.mv (.t 18)),none⟩] []) (.region false [⟨(some 10),(.mv (.t 19)),none⟩] [])),(.block 1 (.region true [⟨(some 21),(.load false 1 (.t 7)),none⟩,⟨(some 22),(.mv (.t 9)),none⟩,⟨(some 23),(.load false 1 (.t 8)),none⟩,⟨(some 24),(.mv (.t 10)),none⟩,⟨(some 25),(.load false 1 (.t 3)),none⟩,⟨(some 26),(.call (.f 282) [(.t 23),(.t 24),(.t 25)]),none⟩,⟨(some 20),(.mv (.t 26)),none⟩,⟨(some 27),(.extract (.t 20) 0),none⟩,⟨(some 28),(.extract (.t 20) 1),none⟩,⟨(some 29),(.iaddrS 1 (.t 21) (.t 22)),none⟩,⟨none,(.store 1 (.t 29) (.t 27)),none⟩,⟨none,(.store 1 (.t 8) (.t 28)),none⟩] [0,0,0,0,0,28,60,124,124,255,767,2047]))⟩::Y) (.k7 18) [aI i,bl (a/aj i%4294967296)] h=some (u,h')/\u= .bool true/\(∃o' gI,sL 0 9 11 8 18 a m L i o' gI h')/\h.next<=h'.next/\∀j,j=14->h'.cells j=h.cells j:=by
 have ae:a/aj i%4294967296<4294967296:=Nat.mod_lt _ (by decide)
 obtain⟨x,iP⟩:∃x,x=a/aj i%4294967296:=⟨_,rfl⟩
 rw[<-iP] at ae|-
 have t:=WG (r,x,m) ⟨ah.eU,ae,hm⟩ (args:=[bl r,bl x,bl m]) (by simp)
 simp only at t
 obtain⟨d1,d2⟩:=L2 ah.eU ae hm
 have fZ:=ah.ol
 have st:=WQ (y:=aD o i) (m8 (two r x/m) (show i<o.length by omega)) (ah.D3 i (by omega)) (by have:=ah.eq;rw[ea] at this;exact this) rfl
 rw[iP,<-ea,qS,Nat.mod_add_div] at st
 rw[<-iP] at st
 have go:=kc (show i<o.length by omega)
 have sz:=kH (show 0<o.length by omega)
 have set:=pb o i (two r x/m)
 have cr:=ah.cr
 have j5:=ah.j5
 have n8:=ah.n8
 have lI:=ah.lI
 have lJ:=ah.lJ
 have oj:=ah.oj
 have sM:=ah.sM
 clear iP
 generalize two r x=z at*
 refine CH (L:=⟨18,F,[18,19],(.seq (.region false [⟨(some 9),(.mv (.t 18)),none⟩] []) (.region false [⟨(some 10),(.mv (.t 19)),none⟩] [])),(.block 1 (.region true [⟨(some 21),(.load false 1 (.t 7)),none⟩,⟨(some 22),(.mv (.t 9)),none⟩,⟨(some 23),(.load false 1 (.t 8)),none⟩,⟨(some 24),(.mv (.t 10)),none⟩,⟨(some 25),(.load false 1 (.t 3)),none⟩,⟨(some 26),(.call (.f 282) [(.t 23),(.t 24),(.t 25)]),none⟩,⟨(some 20),(.mv (.t 26)),none⟩,⟨(some 27),(.extract (.t 20) 0),none⟩,⟨(some 28),(.extract (.t 20) 1),none⟩,⟨(some 29),(.iaddrS 1 (.t 21) (.t 22)),none⟩,⟨none,(.store 1 (.t 29) (.t 27)),none⟩,⟨none,(.store 1 (.t 8) (.t 28)),none⟩] [0,0,0,0,0,28,60,124,124,255,767,2047]))⟩) (Y':=Y) (by simp[nU]) rfl ?_
 simp only[mM]
 have ej:ar (ar F 18 (aI i)) 19 (bl x) 3= .ptr 0 0 0:=by simp[ar,f3]
 have j':ar (ar F 18 (aI i)) 19 (bl x) 7= .ptr 9 0 0:=by simp[ar,f7]
 have jU:ar (ar F 18 (aI i)) 19 (bl x) 8= .ptr 11 0 0:=by simp[ar,f8]
 refine ba (bg nC ?_)
 simp
 refine bg nC ?_
 simp[ah.jz,Nat.add_assoc]
 refine jA (bg nC ?_)
 simp(disch:=omega) [aF,List.getElem?_cons_zero,List.getElem?_cons_succ,dD,cQ,fq,Nat.mod_eq_of_lt,iV,iW,iX,iY,fz,iZ,i_,i',f3,f7,f8,cr,j5,n8,lI,lJ,oj,t,go,sz,set,ab,Nat.add_assoc,tw,km,xU,oE,qt]
 refine⟨by decide,o.set i (z/m),z%m,by rw[List.length_set];exact fZ,m9 ah.os d1,fun j aA=>?_,Nat.mod_lt _ (by have:=ah.eU;omega),st,by simp[ar,cr],by simp[ar,j5],by simp[ar],by simp[ar],lJ,oj,by simp[ar],by show 18<h.next+14;omega⟩
 rw[nG _ _ (by omega),if_neg (by omega)]
 exact ah.D3 j (by omega)
theorem WX (Y:List cy) (h:ai) (l:List Nat) (e:Bool):
 eB G (aH Tryz.prog) q6 Y (.fn 281) [bV l e] h=some (.fn 293 [] [.ptr h.next 0 0],⟨ar h.cells h.next (some [bV l e]),h.shut,h.next+4,h.aU⟩):=by
 obtain⟨v,h',e,rfl,rfl⟩:=jB (Φ:=aH Tryz.prog) (G:=G) (tab:=q6) (Y:=Y) (h:=h) (args:=[bV l e]) (R:=fun v h'=>v= .fn 293 [] [.ptr h.next 0 0]/\h'=⟨ar h.cells h.next (some [bV l e]),h.shut,h.next+4,h.aU⟩) Kp (by
  unfold i281
  refine aM [0,1,2] fun F K=>?_
  obtain⟨f0,f1,f2⟩:=K
  have H:=(@Nat.add_assoc)
  have K:=b3 f0 f1 f2;clear f0 f1 f2
  refine cM [0,1,2] fun F k=>?_;clear K H
  obtain⟨f0,f1,f2⟩:=k
  try refine bU ?_
  simp[jl,f2])
 exact e
noncomputable def uK:List I->Option I:=a7 (fun z:Nat × Nat=>(aa z.1).length<=100000000/\z.2<4294967296) (fun z=>[af z.1,bl z.2]) (fun z=>if z.2=0 then .bL [.sl [] false,bl 0,aI 3] else .bL [af (z.1/z.2),bl (z.1%z.2),aI 0])
theorem WY (z:Nat × Nat) (h:(aa z.1).length<=100000000/\z.2<4294967296) {args:List I} (he:args.map I.loose= [af z.1,bl z.2]):uK args=some (if z.2=0 then .bL [.sl [] false,bl 0,aI 3] else .bL [af (z.1/z.2),bl (z.1%z.2),aI 0]):=bk (fun z w h=>by simp only[List.cons.injEq,I.int.injEq,I.bool.injEq,I.sl.injEq,b4,bZ,bX,b_,b9,bz,bI,b8,bp,true_and,and_true] at h;simp[h]) z h he
theorem L9:aG Tryz.prog G 259 uK:=by
 refine bj mixed WR Kg fun z av=>?_
 obtain⟨a,m⟩:=z
 obtain⟨bt,hm⟩:=av
 simp only at bt hm|-
 unfold i259
 by_cases oc:m=0
 · rw[if_pos oc]
   subst oc
   refine aM [0,1,3,4,5,6,7,8,9,10,12,17,18,19] fun F K=>?_
   obtain⟨f0,f1,f3,f4,f5,f6,f7,f8,f9,f10,f12,f17,f18,f19⟩:=K
   have H:=trivial
   have K:=yQ f0 f1 f3 f4 f5 f6 f7 f8 f9 f10 f12 f17 f18 f19;clear f0 f1 f3 f4 f5 f6 f7 f8 f9 f10 f12 f17 f18 f19
   exact kD [0,1,3,4,5,6,7,8,9,10,12,17,18,19]
 · rw[if_neg oc]
   have aC:=dp a
   obtain⟨L,bd⟩:∃L,L=(aa a).length:=⟨_,rfl⟩
   have a4:a<aj L:=cu.1 (by omega)
   have aS:Z L*4<=140737488355328:=by simp only[Z];omega
   refine aM [0,1,3,4,5,6,7,8,9,10,12,17,18,19] fun F K=>?_
   obtain⟨f0,f1,f3,f4,f5,f6,f7,f8,f9,f10,f12,f17,f18,f19⟩:=K
   have H:=bA oc aS (@zy) (@WX) bd.symm
   have K:=yQ f0 f1 f3 f4 f5 f6 f7 f8 f9 f10 f12 f17 f18 f19;clear f0 f1 f3 f4 f5 f6 f7 f8 f9 f10 f12 f17 f18 f19
   refine cM [0,1,3,4,5,6,7,8,9,10,12,17,18,19] fun F k=>?_;clear K H
   obtain⟨f0,f1,f3,f4,f5,f6,f7,f8,f9,f10,f12,f17,f18,f19⟩:=k
   refine jA (CG f17 Kt ?_)
   have ej:=f3
   have j':=f7
   have jU:=f8
   clear f0 f1 f3 f4 f5 f6 f7 f8 f9 f10 f12 f17 f18 f19
   unfold i293
   simp
   have sF:IntKind.i64.wrap (Z L - Z 1)=eQ L:=jT (by omega)
   refine aM [0,1,3,8,18] fun F K=>?_
   obtain⟨f0,f1,f3,f8,f18⟩:=K
   have H:=br sF bd.symm
   have K:=bA f0 f1 f3 f8 f18;clear f0 f1 f3 f8 f18
   refine cM [0,1,3,8,18] fun F k=>?_;clear K H
   obtain⟨f0,f1,f3,f8,f18⟩:=k
   refine mr (fun k s=>k<=L/\(∃o r,sL 0 9 11 8 18 a m L k o r s.h)/\s.h.cells 14=some [af a]/\s.F 3= .int .i64 (eQ k)) (fun s=>∃o r,sL 0 9 11 8 18 a m L 0 o r s.h) (fun _=>False) L ?_ ?_ ?_ (fun _ _ h=>h.elim)
   · refine⟨Nat.le_refl _,⟨List.replicate L 0,0,?_⟩,by simp[ar],f3⟩
     exact ⟨by simp,p5 _,fun j _=>wA _ _,by omega,by simp[sn,Nat.div_eq_of_lt a4],by simp[ar],by simp[ar],by simp[ar],by simp[ar],by simp,by simp,by simp[ar],by simp⟩
   · rintro k s ag ⟨ahr,⟨o,r,ah⟩,sx,L_⟩
     replace f0:=(ag 0 rfl).trans f0;replace f1:=(ag 1 rfl).trans f1
     clear f3
     have f3:=L_
     clear L_
     have K:=b3 f0 f1 f3;clear f0 f1 f3
     refine bN [0,1,3,8,18] fun F k=>?_;clear K
     obtain⟨f0,f1,f3,f8,f18⟩:=k
     cases k with
     | zero=>
       rw[p3] at f3
       have H:=(@sJ)
       have K:=bA f0 f1 f3 f8 f18;clear f0 f1 f3 f8 f18
       refine cM [0,1,3,8,18] fun F k=>?_;clear K H
       obtain⟨f0,f1,f3,f8,f18⟩:=k
       exact ⟨o,r,ah.bump _ (by omega)⟩
     | succ i=>
       rw[ob] at f3
       have nc:=(jS (show i<(aa a).length by omega)).symm
       rw[fY] at nc
       have kY:=fun n ak=>ah.bump n ak
       have qc:i<L:=by omega
       have WZ:IntKind.i64.wrap (Z i - Z 1)=eQ i:=jT (by omega)
       obtain⟨u,h',oJ,rfl,uw,r8,q7⟩:=WW [] ej j' jU hm (kY (s.h.next+10) (by omega)) qc
       have q7:=q7 14 rfl
       simp only at r8 q7
       rw[sx] at q7
       have sM:=ah.sM
       have H:=db sx nc qc WZ oJ (@Nat.add_assoc) bd.symm
       have K:=bA f0 f1 f3 f8 f18;clear f0 f1 f3 f8 f18
       refine cM [0,1,3,8,18] fun F k=>?_;clear K H
       obtain⟨f0,f1,f3,f8,f18⟩:=k
       obtain⟨o',gI,uw⟩:=uw
       exact ⟨i,Nat.lt_succ_self i,by omega,⟨o',gI,uw.bump _ (by omega)⟩,q7,by first|rfl|exact f3⟩
   · rintro s ag ⟨o,r,ah⟩
     have j5:=ah.j5
     have n8:=ah.n8
     have lI:=ah.lI
     have fZ:=ah.ol
     have sM:=ah.sM
     have W0:8<s.h.next:=by omega
     have W1:9<s.h.next:=by omega
     have W2:11<s.h.next:=by omega
     have e:=ah.eq
     rw[fk,Nat.one_mul,Nat.one_mul,Nat.div_one] at e
     have uL:=ah.eU
     have aq:val o=a/m:=by rw[<-e,Nat.mul_add_div (by omega),Nat.div_eq_of_lt uL,Nat.add_zero]
     have au:r=a%m:=by rw[<-e,Nat.mul_add_mod,Nat.mod_eq_of_lt uL]
     have b7:=o5 (e:=false) ah.os (show o.length<=1073741824 by omega)
     rw[aq] at b7
     have ef:=zA (show o.length<=L by omega)
     have mV:=zz o
     have gk:=qb o
     have hle:L<=(bm o).length:=by omega
     rw[show (o.map fun n=>I.int .u32 (Z n))=bm o from rfl] at b7
     refine⟨trivial,⟨_,rfl⟩,?_⟩
     simp only[ah.jz]
     rw[<-au]
     generalize a/m=ahs at*
     simp
     have f7:=j'
     have f8:=jU
     have K:=br f7 f8;clear f7 f8
     refine bN [4,5,6,7,8] fun F k=>?_;clear K
     obtain⟨f4,f5,f6,f7,f8⟩:=k
     have H:=j6 j5 n8 lI b7 ef mV hle W0 W1 W2
     have K:=bA f4 f5 f6 f7 f8;clear f4 f5 f6 f7 f8
     exact kD [4,5,6,7,8]
end
section
attribute [local irreducible] a'
attribute [local simp] c2 cN cq
noncomputable def jG:FuncId->Option (List I->Option I):=cf [(171,nI),(259,uK),(260,zF),(261,uJ),(173,l'),(241,sy),(245,sA)]
theorem W3:∀f T,jG f=some T->aG Tryz.prog G f T:=cg (by simp only[List.forall_mem_cons];exact ⟨wF,L9,WJ,WL,DC,Ld,Lf,fun _ h=>absurd h (by simp)⟩)
theorem zG:jG 171=some nI:=rfl
theorem W4:jG 259=some uK:=rfl
theorem zH:jG 260=some zF:=rfl
theorem zI:jG 261=some uJ:=rfl
theorem zJ:jG 173=some l':=rfl
theorem Ma:jG 241=some sy:=rfl
theorem Mb:jG 245=some sA:=rfl
theorem zK:jG 170=none:=rfl
theorem W5:jG 238=none:=rfl
theorem zL:jG 172=none:=rfl
theorem wY:jG 262=none:=rfl
theorem wZ:jG 263=none:=rfl
theorem W6:jG 205=none:=rfl
attribute [local simp] zG W4 zH zI zJ Ma Mb zK W5 zL wY wZ W6
structure Own (h h':ai) (v:I) (o:List Nat):Prop where
 kept:Kept h h'
 val:(o= []/\v= .sl [] true)\/∃r,v= .ref r 0 o.length o.length/\h.next<=r/\fa h' r o
theorem W7 (o:List Nat) (n:Nat):List.take n (bm o)=bm (o.take n):=by rw[bm,bm,List.map_take]
theorem W8 (o:List Nat):(bm o).all (fun e=>e.cells.length == 1&&e.cells.all I.cb)=true:=by simp[bm,I.cells,I.cb]
theorem W9 (o:List Nat):(bm o).all (fun e=>e.cells.length == 1)=true:=by simp[bm,I.cells]
theorem W_ {r:Nat} {h:ai} {q n N:Nat} {o:List Nat} (J:h.cells q=some (bm o)) (ak:n<=o.length) (aF:0<n) (az:n<=1000000000):
 kv r 1 4 h (.sl [] true) (.ref q 0 n N)=some (.ref r 0 n n,h.new r (bm (o.take n)),.wr):=by
 have e:elems h (.ref q 0 n N)=some (bm (o.take n)):=by
  simp only[elems,J];rw[if_pos (by rw[qb];omega),List.drop_zero,W7]
 have hle:(bm (o.take n)).length=n:=by rw[qb,List.length_take];omega
 unfold kv
 rw[e]
 simp only[Option.bind_some]
 rw[if_pos ⟨by decide,by decide,W8 _⟩,if_neg (by omega)]
 simp only[kl,hle,List.length_nil,Nat.zero_add,List.nil_append,Bool.false_eq_true,if_false]
 rw[if_pos (by refine⟨?_,?_,aF,?_⟩<;>first|trivial|omega|rfl)]
theorem W' (Y:List cy) (h:ai) (cX:∀j,h.shut j=false) {q n:Nat} {o:List Nat} (V:fa h q o) (ak:n<=o.length) (aF:0<o.length) (az:o.length<=1000000000):
 ∃v h',eB G (aH Tryz.prog) jG Y (.fn 238) [.ref q 0 n o.length] h=some (v,h')/\Own h h' v (o.take n):=by
 refine jB C1 ?_
 have ds:=V.cells
 have cW:=kH aF
 unfold i238
 by_cases lY:n=0
 · subst lY
   have el:∀m p,elems ⟨h.cells,h.shut,m,p⟩ (.ref q 0 0 o.length)=some []:=fun m p=>by simp[elems,ds]
   have ap:∀m p r,kv r 1 4 ⟨h.cells,h.shut,m,p⟩ (.sl [] true) (.ref q 0 0 o.length)=some (.sl [] true,⟨h.cells,h.shut,m,p⟩,.wr):=fun m p r=>by
    unfold kv;rw[el];simp[kl]
   refine aM [0,2,4] fun F K=>?_
   obtain⟨f0,f2,f4⟩:=K
   have H:=br (@aF) ap
   have K:=b3 f0 f2 f4;clear f0 f2 f4
   refine cM [0,2,4] fun F k=>?_;clear K H
   obtain⟨f0,f2,f4⟩:=k
   try refine bU ?_
   simp[jl,f2]
   exact ⟨(Kept.ug h).bump _ (by omega),.inl ⟨by simp,rfl⟩⟩
 · have ap:∀m p r,kv r 1 4 ⟨h.cells,h.shut,m,p⟩ (.sl [] true) (.ref q 0 n o.length)=some (.ref r 0 n n,⟨ar h.cells r (some (bm (o.take n))),h.shut,m,p⟩,.wr):=fun m p r=>W_ ds ak (by omega) (by omega)
   have hle:(o.take n).length=n:=by rw[List.length_take];omega
   refine aM [0,2,4] fun F K=>?_
   obtain⟨f0,f2,f4⟩:=K
   have H:=br (@aF) ap
   have K:=b3 f0 f2 f4;clear f0 f2 f4
   refine cM [0,2,4] fun F k=>?_;clear K H
   obtain⟨f0,f2,f4⟩:=k
   try refine bU ?_
   simp[jl,f2]
   exact ⟨(Kept.ug h).new _ _ (by omega) (by omega),.inr ⟨_,by rw[hle],by omega,⟨by simp only[ar,if_true],cX _,by show h.next+1+2+2<h.next+1+2+4;omega⟩⟩⟩
theorem Own.trans {a b c:ai} {v:I} {o:List Nat} (k:Kept a b) (x:Own b c v o):Own a c v o:=
 ⟨k.trans x.kept,x.val.imp id fun⟨r,U,h2,aB⟩=>⟨r,U,Nat.le_trans k.next h2,aB⟩⟩
theorem fa.kept {h h':ai} {q:Nat} {o:List Nat} (V:fa h q o) (k:Kept h h'):fa h' q o:=⟨by rw[k.cells q V.dK];exact V.cells,by rw[k.shut];exact V.cp,Nat.lt_of_lt_of_le V.dK k.next⟩
theorem D4 (Y:List cy) (h:ai) (cX:∀j,h.shut j=false) {q:Nat} {o:List Nat} (V:fa h q o) (aw:Small o) (aF:0<o.length) (az:o.length<=1000000000):
 ∃v h',eB G (aH Tryz.prog) jG Y (.fn 170) [.ref q 0 o.length o.length] h=some (v,h')/\Own h h' v (aa (val o)):=by
 refine jB CY ?_
 have cW:=kH aF
 unfold i170
 refine aM [0,2,3,15] fun F K=>?_
 obtain⟨f0,f2,f3,f15⟩:=K
 have H:=trivial
 have K:=bK f0 f2 f3 f15;clear f0 f2 f3 f15
 refine cM [0,2,3,15] fun F k=>?_;clear K H
 obtain⟨f0,f2,f3,f15⟩:=k
 refine mr (fun m s=>m<=o.length/\(∀i,m<=i->aD o i=0)/\Kept h s.h/\s.F 3=aI m) (fun s=>∃m,m<=o.length/\(∀i,m<=i->aD o i=0)/\(m=0\/aD o (m - 1)≠0)/\Kept h s.h/\s.F 3=aI m) (fun _=>False) o.length ?_ ?_ ?_ (fun _ _ h=>h.elim)
 · exact ⟨Nat.le_refl _,fun i ab=>qR ab,(Kept.ug h).bump _ (by omega),by first|rfl|exact f3⟩
 · rintro m s ag ⟨hm,av,K,ej⟩
   replace f0:=(ag 0 rfl).trans f0
   clear f3
   have f3:=ej
   have ds:=(V.kept K).cells
   have K:=br f0 f3;clear f0 f3
   refine bN [0,3,15] fun F k=>?_;clear K
   obtain⟨f0,f3,f15⟩:=k
   cases m with
   | zero=>
     have H:=trivial
     have K:=b3 f0 f3 f15;clear f0 f3 f15
     refine cM [0,3,15] fun F k=>?_;clear K H
     obtain⟨f0,f3,f15⟩:=k
     exact ⟨0,by omega,av,.inl rfl,K.bump _ (by omega),by first|rfl|exact f3⟩
   | succ m=>
     have go:=kc (show m<o.length by omega)
     have Mc:m<o.length:=by omega
     have hw:IntKind.i64.wrap (Z (m+1) - Z 1)=Z m:=by rw[cQ (by omega) (by omega)];rfl
     by_cases ae:aD o m=0
     · skip
       have H:=c6 ds cW go Mc hw ae
       have K:=b3 f0 f3 f15;clear f0 f3 f15
       refine cM [0,3,15] fun F k=>?_;clear K H
       obtain⟨f0,f3,f15⟩:=k
       refine⟨m,by omega,by omega,fun i ab=>?_,K.bump _ (by omega),by first|rfl|exact f3⟩
       by_cases e:i=m
       · subst e;exact ae
       · exact av i (by omega)
     · skip
       have H:=c6 ds cW go Mc hw ae
       have K:=b3 f0 f3 f15;clear f0 f3 f15
       refine cM [0,3,15] fun F k=>?_;clear K H
       obtain⟨f0,f3,f15⟩:=k
       exact ⟨m+1,hm,av,.inr ae,K.bump _ (by omega),by first|rfl|exact f3⟩
 · rintro s ag ⟨m,hm,av,jj,K,ej⟩
   replace f0:=(ag 0 rfl).trans f0
   clear f3
   have f3:=ej
   have aL:=C6 aw hm av jj
   obtain⟨v,h',aq,own⟩:=W' Y ⟨s.h.cells,s.h.shut,s.h.next+5,s.h.aU⟩ (fun j=>by show s.h.shut j=false;rw[K.shut];exact cX j) ((V.kept K).bump (s.h.next+5) s.h.aU (by omega)) hm aF az
   rw[aL] at own
   have K:=br f0 f3;clear f0 f3
   refine bN [0,2,3] fun F k=>?_;clear K
   obtain⟨f0,f2,f3⟩:=k
   have H:=br aq hm
   have K:=b3 f0 f2 f3;clear f0 f2 f3
   refine cM [0,2,3] fun F k=>?_;clear K H
   obtain⟨f0,f2,f3⟩:=k
   try refine bU ?_
   simp[jl,f2]
   exact Own.trans (K.bump _ (by omega)) own
theorem zM {h g:ai} (K:Kept h g) {q:Nat} (aN:h.next<=q) (v:Option (List I)) (n:Nat) (p:Nat->Option fu) (ak:g.next<=n) (aE:p=g.aU:=by rfl):Kept h ⟨ar g.cells q v,g.shut,n,p⟩:=
 ⟨Nat.le_trans K.next ak,fun j aA=>by
   have:j≠q:=by omega
   simp only[ar,if_neg this];exact K.cells j aA,K.shut,by rw[aE];exact K.aU⟩
def Md (h:ai) (a r w L i:Nat) (s:aK):Prop:=(∃q,h.next<=q/\∃o c,o.length=i/\Small o/\c<2^r/\val o+aj i*c=a%aj i*2^r/\s.F 5= .ref q 0 (w+i) (w+L+1)/\s.F 7=bl c/\Row s.h q (List.replicate w 0++o) (w+L+1))/\Kept h s.h
theorem Me (Y:List cy) (h:ai) (cX:∀j,h.shut j=false) {a n:Nat} {e:Bool} (eg:a≠0) (bt:(aa a).length<=100000000) (ak:n<=100000000):
 ∃v h',eB G (aH Tryz.prog) jG Y (.fn 172) [bV (aa a) e,aI n] h=some (v,h')/\Own h h' v (aa (a*2^n)):=by
 refine jB CZ ?_
 have aC:=dp a
 have bO:aa a≠ []:=fun h=>eg (jn.1 h)
 obtain⟨w,hw⟩:∃w,w=n/32:=⟨_,rfl⟩
 obtain⟨r,aT⟩:∃r,r=n%32:=⟨_,rfl⟩
 have l9:r<32:=by omega
 have fT:aj w*(a*2^r)=a*2^n:=by
  rw[kF,Nat.mul_left_comm,<-Nat.pow_add,show 32*w+r=n by omega]
 have bw:2^r<=2147483648:=Nat.pow_le_pow_right (n:=2) (by decide) (show r<=31 by omega)
 obtain⟨L,bd⟩:∃L,L=(aa a).length:=⟨_,rfl⟩
 have a4:a<aj L:=cu.1 (by omega)
 have Du:0<L:=by rw[bd];exact lr.2 eg
 unfold i172
 have wJ:Z (w+L+1)*4<=140737488355328:=by simp only[Z];omega
 have uz:w<=w+L+1:=by omega
 have Vq:n<9223372036854775808:=by omega
 refine aM [0,1,4,5,6,7,9,12,24,25,26,27] fun F K=>?_
 obtain⟨f0,f1,f4,f5,f6,f7,f9,f12,f24,f25,f26,f27⟩:=K
 have H:=db hw.symm aT.symm bd.symm bO wJ uz Du
 have K:=kU f0 f1 f4 f5 f6 f7 f9 f12 f24 f25 f26 f27;clear f0 f1 f4 f5 f6 f7 f9 f12 f24 f25 f26 f27
 refine cM [0,1,4,5,6,7,9,12,24,25,26,27] fun F k=>?_;clear K H
 obtain⟨f0,f1,f4,f5,f6,f7,f9,f12,f24,f25,f26,f27⟩:=k
 refine fA L (fun i s=>Md h a r w L i s/\s.F 26=aI i) (Md h a r w L L) (fun _=>False) ?_ ?_ ?_ (fun _ _ h=>h.elim)
 · refine⟨⟨⟨_,by omega,[],0,rfl,Small.nil,Nat.pow_pos (by decide),by simp[val,fk,Nat.mod_one],f5,f7,?_,cX _,?_,?_⟩,(Kept.ug h).new _ _ (by omega) (by omega)⟩,f26⟩
   · rw[List.append_nil,Lq uz,<-Lp];simp[ar]
   · show h.next+1+3+8<h.next+1+3+10+3+1+3;omega
   · simp;omega
 · rintro i s ab ag ⟨⟨⟨q,nH,o,c,ay,aw,p9,al,dm,j',R⟩,K⟩,wM⟩
   replace f0:=(ag 0 rfl).trans f0;replace f6:=(ag 6 rfl).trans f6;replace f24:=(ag 24 rfl).trans f24;replace f25:=(ag 25 rfl).trans f25
   clear f5 f7 f26
   have f5:=dm
   have f7:=j'
   have f26:=wM
   have K:=db f0 f5 f6 f7 f24 f25 f26;clear f0 f5 f6 f7 f24 f25 f26
   refine bN [0,5,6,7,9,24,25,26,27] fun F k=>?_;clear K
   obtain⟨f0,f5,f6,f7,f9,f24,f25,f26,f27⟩:=k
   by_cases aS:i<L
   · have ae:=aC.aD i
     have eh:=(jS (show i<(aa a).length by omega)).symm
     have st:=Lt al
     rw[<-fY] at st
     have jJ:=Lr (x:=aD (aa a) i) (by omega) p9
     have dj:=Ls (x:=aD (aa a) i) (by omega) p9
     have hlen:(List.replicate w 0++o).length=w+i:=by simp[ay]
     have ap:=R.app (by omega) (by omega) (aD (aa a) i*2^r%4294967296+c)
     rw[hlen] at ap
     have cG:min r 32=r:=by omega
     have dn:min r 64=r:=by omega
     have je:aD (aa a) i*2^r/4294967296<2^r:=by
      rw[Nat.div_lt_iff_lt_mul (by decide),Nat.mul_comm]
      exact Nat.mul_lt_mul_of_pos_left ae (Nat.pow_pos (by decide))
     have Dv:aD (aa a) i*2^r<18446744073709551616:=Nat.lt_of_le_of_lt (Nat.mul_le_mul (show aD (aa a) i<=4294967295 by omega) bw) (by decide)
     have sD:aD (aa a) i*2^r/4294967296<4294967296:=by omega
     have Dw:=fun m p hm=>R.put (m:=m) (p:=p) (by omega) (aD (aa a) i*2^r%4294967296+c) hm
     have H:=j6 aS eh jJ dj ap cG dn Dv sD bd.symm
     have K:=fH f0 f5 f6 f7 f9 f24 f25 f26 f27;clear f0 f5 f6 f7 f9 f24 f25 f26 f27
     refine cM [0,5,6,7,9,24,25,26,27] fun F k=>?_;clear K H
     obtain⟨f0,f5,f6,f7,f9,f24,f25,f26,f27⟩:=k
     refine⟨⟨q,nH,o++ [aD (aa a) i*2^r%4294967296+c],_,by simp[ay],oa.2 ⟨aw,lq.2 ⟨dj,Small.nil⟩⟩,je,?_,f5,f7,?_⟩,zM K nH _ _ _ (by omega)⟩
     · rw[l8,ay];simpa[val] using st
     · rw[<-List.append_assoc];refine Dw _ _ ?_;omega
   · have od:i=L:=by omega
     subst od
     have H:=aS
     have K:=fH f0 f5 f6 f7 f9 f24 f25 f26 f27;clear f0 f5 f6 f7 f9 f24 f25 f26 f27
     refine cM [0,5,6,7,9,24,25,26,27] fun F k=>?_;clear K H
     obtain⟨f0,f5,f6,f7,f9,f24,f25,f26,f27⟩:=k
     exact ⟨⟨q,nH,o,c,ay,aw,p9,al,f5,f7,R.bump _ _ (by omega)⟩,Kept.bump K _ (by omega)⟩
 · rintro s ag ⟨⟨q,nH,o,c,ay,aw,p9,al,dm,j',R⟩,K⟩
   clear f5 f7 f26
   have f5:=dm
   have f7:=j'
   have hlen:(List.replicate w 0++o).length=w+L:=by simp[ay]
   have sD:c<4294967296:=by omega
   have ap:=R.app (by omega) (by omega) c
   rw[hlen] at ap
   have nY:Small ((List.replicate w 0++o)++ [c]):=oa.2 ⟨oa.2 ⟨p5 w,aw⟩,lq.2 ⟨sD,Small.nil⟩⟩
   have iS:((List.replicate w 0++o)++ [c]).length=w+L+1:=by simp[ay];omega
   rw[Nat.mod_eq_of_lt a4] at al
   have lC:val ((List.replicate w 0++o)++ [c])=a*2^n:=by
    rw[<-fT,List.append_assoc,Dd,l8,ay]
    simp only[val,Nat.mul_zero,Nat.add_zero];rw[al]
   rw[Lo iS] at ap
   generalize (List.replicate w 0++o)++ [c]=xs at*
   rw[show (xs.map fun x=>I.int .u32 (Z x))=bm xs from rfl] at ap
   have lf:Kept h ⟨ar s.h.cells q (some (bm xs)),s.h.shut,s.h.next+6,s.h.aU⟩:=zM K nH _ _ _ (by omega)
   obtain⟨v,h',aq,own⟩:=D4 Y ⟨ar s.h.cells q (some (bm xs)),s.h.shut,s.h.next+6,s.h.aU⟩ (fun j=>by show s.h.shut j=false;rw[K.shut];exact cX j) (q:=q) (o:=xs) ⟨by simp only[ar,if_true],R.cp,by show q<s.h.next+6;have:=R.dK;omega⟩ nY (by omega) (by omega)
   rw[lC,iS] at*
   have K:=br f5 f7;clear f5 f7
   refine bN [4,5,7] fun F k=>?_;clear K
   obtain⟨f4,f5,f7⟩:=k
   have H:=br ap aq
   have K:=b3 f4 f5 f7;clear f4 f5 f7
   refine cM [4,5,7] fun F k=>?_;clear K H
   obtain⟨f4,f5,f7⟩:=k
   try refine bU ?_
   simp[jl,f4]
   exact Own.trans lf own
end
end
section
set_option maxHeartbeats 8000000
open Go Go.Eng Go.RowKit
theorem jV {α:Type} (f:Nat->α) (k:Nat) (a b:α):ar (ar f k a) k b=ar f k b:=by funext i;simp only[ar];split<;>rfl
abbrev dy (p:Int × Bool):I:= .agg [.bool (a5 p.1),bV (aa p.1.natAbs) p.2]
def c9 (o:List (Int × Bool)):List I:=o.map dy
abbrev zs (o:List (Int × Bool)):List Int:=o.map Prod.fst
theorem sN (o:List (Int × Bool)):(c9 o).length=o.length:=by simp[c9]
theorem Mf {o:List (Int × Bool)} {i:Nat} (h:i<o.length):(c9 o)[i]? =some (dy o[i]):=by simp[c9,h]
theorem uM (o:List (Int × Bool)) (i:Nat) (p:Int × Bool):(c9 o).set i (dy p)=c9 (o.set i p):=by simp[c9,List.map_set]
theorem Xa (o:List (Int × Bool)):(c9 o).all (fun e=>e.cells.length == 2)=true:=by simp[c9,I.cells]
theorem zN (o:List (Int × Bool)):(c9 o).all I.ei=true:=by simp[c9,I.ei,I.cells,I.eb]
theorem uN {o:List (Int × Bool)} (h:0<o.length):sizedB 2 (some (c9 o))=true:=by
 simp only[sizedB,Xa,Bool.and_true,decide_eq_true_eq,sN];exact h
theorem zO (o:List (Int × Bool)):kS (c9 o)=(zs o).map fun z=>ao z:=by
 rw[p0,c9,List.map_map,List.map_map]
 refine List.map_congr_left fun p _=>?_
 exact Kz p.1 p.2
theorem uO (l:List Int):(l.map fun z=>ao z)=c9 (l.map fun z=>(z,false)):=by simp[c9]
theorem Mg (l:List Int):zs (l.map fun z=>(z,false))=l:=by rw[zs,List.map_map];exact List.map_id l
theorem D5 (o:List (Int × Bool)) (i:Nat) (p:Int × Bool):zs (o.set i p)=(zs o).set i p.1:=by simp[zs,List.map_set]
theorem w0 (o:List (Int × Bool)):(zs o).length=o.length:=by simp
structure jH (h:ai) (q:Nat) (o:List (Int × Bool)):Prop where
 cells:h.cells q=some (c9 o)
 cp:h.shut q=false
 dK:q<h.next
theorem jH.bump {h:ai} {q:Nat} {o:List (Int × Bool)} (V:jH h q o) (n:Nat) (p:Nat->Option fu) (ak:h.next<=n):jH ⟨h.cells,h.shut,n,p⟩ q o:=⟨V.cells,V.cp,Nat.lt_of_lt_of_le V.dK ak⟩
theorem jH.kept {h h':ai} {q:Nat} {o:List (Int × Bool)} (V:jH h q o) (k:Kept h h'):jH h' q o:=⟨by rw[k.cells q V.dK];exact V.cells,by rw[k.shut];exact V.cp,Nat.lt_of_lt_of_le V.dK k.next⟩
theorem jH.put {h:ai} {q:Nat} {o:List (Int × Bool)} (V:jH h q o) (o':List (Int × Bool)) (n:Nat) (p:Nat->Option fu) (ak:h.next<=n):jH ⟨ar h.cells q (some (c9 o')),h.shut,n,p⟩ q o':=
 ⟨by simp only[ar,if_true],V.cp,Nat.lt_of_lt_of_le V.dK ak⟩
theorem jH.off {h:ai} {p q:Nat} {o:List (Int × Bool)} (R:jH h p o) (bO:p≠q) (v:Option (List I)) (m:Nat) (jz:Nat->Option fu) (hm:h.next<=m):jH ⟨ar h.cells q v,h.shut,m,jz⟩ p o:=
 ⟨by show ar h.cells q v p=_;simp only[ar,if_neg bO];exact R.cells,R.cp,Nat.lt_of_lt_of_le R.dK hm⟩
structure qd (h h':ai) (v:I) (o:List (Int × Bool)):Prop where
 kept:Kept h h'
 val:(o= []/\v= .sl [] true)\/∃r,v= .ref r 0 o.length o.length/\h.next<=r/\jH h' r o
theorem qd.trans {a b c:ai} {v:I} {o:List (Int × Bool)} (k:Kept a b) (x:qd b c v o):qd a c v o:=
 ⟨k.trans x.kept,x.val.imp id fun⟨r,U,h2,aB⟩=>⟨r,U,Nat.le_trans k.next h2,aB⟩⟩
theorem qd.out {h h':ai} {v:I} {o:List (Int × Bool)} (x:qd h h' v o):∃ids e,∀m p,dz ⟨h'.cells,h'.shut,m,p⟩ v=some (.sl (c9 o) e,ids)/\gF ⟨h'.cells,h'.shut,m,p⟩ v=some (.sl (c9 o) e,ids)/\js ⟨h'.cells,h'.shut,m,p⟩ v=some (.sl (c9 o) e,ids):=by
 rcases x.val with⟨rfl,rfl⟩|⟨r,rfl,_,V⟩
 · exact ⟨[],true,fun m p=>⟨rfl,rfl,rfl⟩⟩
 · have e:∀m p,dz ⟨h'.cells,h'.shut,m,p⟩ (.ref r 0 o.length o.length)=some (.sl (c9 o) false,[r]):=fun m p=>by
    rw[gh]
    simp only[V.cells,Nat.zero_add,sN,Nat.le_refl,zN,and_self,if_true,List.drop_zero]
    rw[List.take_of_length_le (by rw[sN];exact Nat.le_refl _)]
   exact ⟨[r],false,fun m p=>⟨e m p,e m p,e m p⟩⟩
theorem qd.outs {h h':ai} {v:I} {o:List (Int × Bool)} (x:qd h h' v o):∃ids e,(∀m p,dz ⟨h'.cells,h'.shut,m,p⟩ v=some (.sl (c9 o) e,ids)/\gF ⟨h'.cells,h'.shut,m,p⟩ v=some (.sl (c9 o) e,ids)/\js ⟨h'.cells,h'.shut,m,p⟩ v=some (.sl (c9 o) e,ids))/\dz h' v=some (.sl (c9 o) e,ids)/\gF h' v=some (.sl (c9 o) e,ids)/\js h' v=some (.sl (c9 o) e,ids):=by
 obtain⟨ids,e,ay⟩:=x.out
 exact ⟨ids,e,ay,ay h'.next h'.aU⟩
def aX (p:List Int):Nat:=p.foldr (fun x m=>max (aJ x) m) 0
theorem kj {L:Nat}:∀ {p:List Int},aX p<=L↔∀x∈p,aJ x<=L
 | []=>by simp[aX]
 | x::p=>by
   have a8:=kj (L:=L) (p:=p)
   simp only[aX,List.foldr_cons,List.mem_cons,forall_eq_or_imp] at*
   rw[Nat.max_le,a8]
theorem w1 (n:Nat):aJ (n:Int)=(aa n).length:=by rw[aJ,Int.natAbs_natCast]
theorem q8:aJ 0=0:=by simp[aJ,eD]
theorem df (p:List Int) (i:Nat):aJ (p.getD i 0)<=aX p:=by
 by_cases h:i<p.length
 · exact kj.1 (Nat.le_refl _) _ (by simp[List.getD_eq_getElem?_getD,h])
 · simp[List.getD_eq_getElem?_getD,show p.length<=i by omega,q8]
theorem om {L:Nat} {p:List Int} (h:∀i,aJ (p.getD i 0)<=L):aX p<=L:=kj.2 fun x ae=>by
 obtain⟨i,ab,rfl⟩:=List.getElem_of_mem ae
 have:=h i
 rwa [show p.getD i 0=p[i] by simp[List.getD_eq_getElem?_getD,ab]] at this
end
section
set_option maxHeartbeats 8000000
open Go Go.Eng Go.RowKit
def k1 (ys:Nat->Int × Bool) (n i:Nat):List (Int × Bool):=(List.range i).map ys++List.replicate (n - i) (0,true)
theorem Mh (ys:Nat->Int × Bool) {n i:Nat} (h:i<=n):(k1 ys n i).length=n:=by simp[k1];omega
theorem Mi (ys:Nat->Int × Bool) (n:Nat):k1 ys n 0=List.replicate n (0,true):=by simp[k1]
theorem Mj (ys:Nat->Int × Bool) (n:Nat):k1 ys n n=(List.range n).map ys:=by simp[k1]
theorem Mk (ys:Nat->Int × Bool) {n i:Nat} (h:i<n):(k1 ys n i).set i (ys i)=k1 ys n (i+1):=by
 obtain⟨m,hm⟩:∃m,n - i=m+1:=⟨n - i - 1,by omega⟩
 have zP:n -(i+1)=m:=by omega
 rw[k1,k1,hm,zP,List.range_succ,List.map_append,List.replicate_succ,List.append_assoc]
 rw[List.set_append_right _ _ (by simp)]
 simp
theorem Ml:dy (0,true)= .agg [.bool false,.sl [] true]:=by
 simp only[dy,Int.natAbs_zero,eD,List.map_nil];rfl
theorem D6 (n:Nat):List.replicate n (I.agg [.bool false,.sl [] true])=c9 (List.replicate n (0,true)):=by
 rw[c9,List.map_replicate,Ml]
end
section
set_option maxHeartbeats 8000000
open Go Go.Eng Go.RowKit
attribute [local simp] aY.m aY.o aY.n aY.g fg eF cV cJ c4 evalOp.eq_1 evalOp.eq_2 evalOp.eq_3 evalOp.eq_4 evalOp.eq_5 evalOp.eq_6 evalOp.eq_7 evalOp.eq_8 evalOp.eq_9 evalOp.eq_10 evalOp.eq_11 evalOp.eq_12 evalOp.eq_13 evalOp.eq_14 evalOp.eq_15 evalOp.eq_16 evalOp.eq_17 evalOp.eq_18 evalOp.eq_19 evalOp.eq_20 evalOp.eq_21 evalOp.eq_22 evalOp.eq_23 evalOp.eq_24 evalOp.eq_25 evalOp.eq_27 evalOp.eq_28 evalOp.eq_29 iK aR.ev cI ar ai.new ec I.cells I.cb I.eb I.ei gL gN gM gO gQ gP hY hZ h0 fM fN cut partOf bound elems h4 h5 h6 h7 h8 h9 h_ ia ib ic ie ig gh ih ij ik il im iq ir iu iv iw ix iy iz iA iB iC iD iE iF iG iH iI iJ eE eo dZ e6 gR gf ai.close ai.set gy iL iM iN h3 gg fh eY dv e8 gu fQ e9 gv gw gx e3 e4 e5 e2 gS bp gq gT gr gU gV eW gW eX gX gY gZ fG hX g0 g1 g2 g3 g4 g5 g6 g7 g8 g9 g_ g' ha hb hc hd hf hg hh fP hi hj hk hl hn ho hp hq hr hs ht hv hx hy hz
attribute [local simp high] hU hV hW hA hB hC hD hE hF hG hH hI hJ hK hL hM hN hO hP hQ hR hS hT
attribute [local simp] aF List.getElem?_cons_zero List.getElem?_cons_succ dD cQ fq Nat.mod_eq_of_lt iV iW iX iY fz iZ i_ i'
section
attribute [local irreducible] a'
attribute [local simp] c2 cN cq jV
def zQ (aF:ai) (ys:Nat->Int × Bool) (n i:Nat) (s:aK):Prop:=∃q,s.F 5= .ref q 0 n n/\aF.next<=q/\jH s.h q (k1 ys n i)/\Kept aF s.h
theorem Mm {h g:ai} (cX:∀j,h.next<=j->h.shut j=false) (K:Kept h g):∀j,g.next<=j->g.shut j=false:=fun j aA=>by
 rw[K.shut];exact cX j (Nat.le_trans K.next aA)
theorem w2 {tab:FuncId->Option (List I->Option I)} (Y:List cy) (h:ai) (cX:∀j,h.next<=j->h.shut j=false) {st:FuncId} {caps:List I} (ez:tab st=none) {o:List (Int × Bool)} {e:Bool} {n:Nat} (ak:o.length=n) (az:n<=1000000) (ys:Nat->Int × Bool)
 (B:ai->Prop) (bw:∀g dC,Kept g dC->B g->B dC) (ad:B h)
 (J:∀i p g,o[i]? =some p->B g->(∀j,g.next<=j->g.shut j=false)->∃dC,eB G (aH Tryz.prog) tab Y (.fn st) (aI i::dy p::caps) g=some (dy (ys i),dC)/\Kept g dC):
 ∃v h',eB G (aH Tryz.prog) tab Y (.fn 108) [.sl (c9 o) e,.fn st [] caps] h=some (v,h')/\qd h h' v ((List.range n).map ys):=by
 refine jB Jw ?_
 have w3:Z n*32<=140737488355328:=by simp only[Z];omega
 have yL:=fun j (aA:h.next<=j)=>cX j aA
 unfold i108
 refine aM [0,1,4,5,6,7,11,12,13,14] fun F K=>?_
 obtain⟨f0,f1,f4,f5,f6,f7,f11,f12,f13,f14⟩:=K
 have H:=bK (@sN) ak w3 (@D6)
 have K:=j6 f0 f1 f4 f5 f6 f7 f11 f12 f13 f14;clear f0 f1 f4 f5 f6 f7 f11 f12 f13 f14
 refine cM [0,1,4,5,6,7,11,12,13,14] fun F k=>?_;clear K H
 obtain⟨f0,f1,f4,f5,f6,f7,f11,f12,f13,f14⟩:=k
 refine fA n (fun i s=>zQ h ys n i s/\s.F 13=aI i) (zQ h ys n n) (fun _=>False) ?_ ?_ ?_ (fun _ _ h=>h.elim)
 · refine⟨⟨_,f5,by omega,?_,(Kept.ug h).new _ _ (by omega) (by omega)⟩,f13⟩
   rw[Mi]
   exact ⟨by simp[ar],cX _ (by omega),by simp⟩
 · rintro i s ab ag ⟨⟨q,dm,aN,V,K⟩,wU⟩
   replace f1:=(ag 1 rfl).trans f1;replace f11:=(ag 11 rfl).trans f11;replace f12:=(ag 12 rfl).trans f12
   clear f5 f13
   have f5:=dm
   have f13:=wU
   have K:=bA f1 f5 f11 f12 f13;clear f1 f5 f11 f12 f13
   refine bN [1,5,6,7,11,12,13,14] fun F k=>?_;clear K
   obtain⟨f1,f5,f6,f7,f11,f12,f13,f14⟩:=k
   by_cases aS:i<n
   · obtain⟨p,aE⟩:∃p,o[i]? =some p:=⟨o[i],List.getElem?_eq_getElem (by omega)⟩
     have eh:(c9 o)[i]? =some (dy p):=by simp[c9,aE]
     have zR:=V.dK
     have iS:=Mh ys (show i<=n by omega)
     have cW:=uN (o:=k1 ys n i) (by omega)
     have go:=Mf (o:=k1 ys n i) (i:=i) (by omega)
     have st:=uM (k1 ys n i) i (ys i)
     rw[Mk ys aS] at st
     have o6:=K.next
     have lf:Kept h ⟨ar s.h.cells (s.h.next+1+3) (some [dy p]),s.h.shut,s.h.next+1+6+8,s.h.aU⟩:=K.new _ _ (by omega) (by omega)
     obtain⟨dC,D7,sO⟩:=J i p ⟨ar s.h.cells (s.h.next+1+3) (some [dy p]),s.h.shut,s.h.next+1+6+8,s.h.aU⟩ aE (bw _ _ lf ad) (Mm cX lf)
     have nJ:jH ⟨ar s.h.cells (s.h.next+1+3) (some [dy p]),s.h.shut,s.h.next+1+6+8,s.h.aU⟩ q (k1 ys n i):=V.off (by omega) _ _ _ (by omega)
     have k2:=nJ.kept sO
     have ds:=k2.cells
     have eT:=k2.cp
     have md:=lf.trans sO
     have uP:=sO.next
     simp only at uP
     have D8:s.h.shut (s.h.next+1+3)=false:=by rw[K.shut];exact cX _ (by omega)
     have H:=j6 aS eh ez D7 ds eT cW go st D8
     have K:=fi f1 f5 f6 f7 f11 f12 f13 f14;clear f1 f5 f6 f7 f11 f12 f13 f14
     refine cM [1,5,6,7,11,12,13,14] fun F k=>?_;clear K H
     obtain⟨f1,f5,f6,f7,f11,f12,f13,f14⟩:=k
     exact ⟨q,f5,aN,k2.put _ _ _ (by omega),zM md aN _ _ _ (by omega)⟩
   · obtain rfl:i=n:=by omega
     have H:=trivial
     have K:=fi f1 f5 f6 f7 f11 f12 f13 f14;clear f1 f5 f6 f7 f11 f12 f13 f14
     refine cM [1,5,6,7,11,12,13,14] fun F k=>?_;clear K H
     obtain⟨f1,f5,f6,f7,f11,f12,f13,f14⟩:=k
     exact ⟨q,f5,aN,V.bump _ _ (by omega),K.bump _ (by omega)⟩
 · rintro s ag ⟨q,dm,aN,V,K⟩
   clear f5 f13
   have f5:=dm
   have K:=f5;clear f5
   refine bN [4,5] fun F k=>?_;clear K
   obtain⟨f4,f5⟩:=k
   rw[Mj] at V
   have H:=trivial
   have K:=br f4 f5;clear f4 f5
   refine cM [4,5] fun F k=>?_;clear K H
   obtain⟨f4,f5⟩:=k
   try refine bU ?_
   simp[jl,f4]
   exact ⟨K.bump _ (by omega),.inr ⟨q,by simp,aN,V.bump _ _ (by omega)⟩⟩
end
section
attribute [local irreducible] a'
attribute [local simp] c2 cN cq
theorem Xb (u v x y:Nat):((decide (u<x)=decide (v<y))->(u+x)*(v+y)+(if u<x then x - u else u - x)*(if v<y then y - v else v - y)=2*(u*v+x*y)/\(u+x)*(v+y) -(if u<x then x - u else u - x)*(if v<y then y - v else v - y)=2*(u*y+x*v))/\
 ((decide (u<x)≠decide (v<y))->(u+x)*(v+y) -(if u<x then x - u else u - x)*(if v<y then y - v else v - y)=2*(u*v+x*y)/\(u+x)*(v+y)+(if u<x then x - u else u - x)*(if v<y then y - v else v - y)=2*(u*y+x*v)):=by
 by_cases U:u<x<;>by_cases h2:v<y<;>simp only[U,h2,decide_true,decide_false,if_true,if_false,ne_eq,not_true,not_false_eq_true,false_implies,true_implies,and_true,true_and,Bool.true_eq_false,Bool.false_eq_true]
 · obtain⟨d,rfl⟩:∃d,x=u+d:=⟨x - u,by omega⟩
   obtain⟨e,rfl⟩:∃e,y=v+e:=⟨y - v,by omega⟩
   rw[Nat.add_sub_cancel_left,Nat.add_sub_cancel_left]
   exact ⟨by grind,Nat.sub_eq_of_eq_add (by grind)⟩
 · obtain⟨d,rfl⟩:∃d,x=u+d:=⟨x - u,by omega⟩
   obtain⟨e,rfl⟩:∃e,v=y+e:=⟨v - y,by omega⟩
   rw[Nat.add_sub_cancel_left,Nat.add_sub_cancel_left]
   exact ⟨Nat.sub_eq_of_eq_add (by grind),by grind⟩
 · obtain⟨d,rfl⟩:∃d,u=x+d:=⟨u - x,by omega⟩
   obtain⟨e,rfl⟩:∃e,y=v+e:=⟨y - v,by omega⟩
   rw[Nat.add_sub_cancel_left,Nat.add_sub_cancel_left]
   exact ⟨Nat.sub_eq_of_eq_add (by grind),by grind⟩
 · obtain⟨d,rfl⟩:∃d,u=x+d:=⟨u - x,by omega⟩
   obtain⟨e,rfl⟩:∃e,v=y+e:=⟨v - y,by omega⟩
   rw[Nat.add_sub_cancel_left,Nat.add_sub_cancel_left]
   exact ⟨by grind,Nat.sub_eq_of_eq_add (by grind)⟩
theorem Xc (x0 x1 x2 y0 y1 dT:Nat):∃E O bF eU dg cD bY bP cr cS u:Nat,
 bF=(x0+x2+x1)*(y0+dT+y1)/\eU=mc x0 x1 x2*mc y0 y1 dT/\dg=(x0+(x1*2^1+x2*2^2))*(y0+(y1*2^1+dT*2^2))/\cD=x0*y0/\cS=x2*dT/\
 (decide (x0+x2<x1)=decide (y0+dT<y1)->bF+eU=E/\bF - eU=O)/\(decide (x0+x2<x1)≠decide (y0+dT<y1)->bF - eU=E/\bF+eU=O)/\
 E/2^1 -(cD+cS)=bP/\dg -(cD+(bP*2^2+cS*2^4))=u/\(u/2^1 - O/2^1)%3=0/\(u/2^1 - O/2^1)/3=cr/\O/2^1 - cr=bY/\
 (∀x∈ [bF,eU,dg,E,O,cD,bY,bP,cr,cS,cD+cS,E/2^1,O/2^1,bP*2^2,cS*2^4,bP*2^2+cS*2^4,cD+(bP*2^2+cS*2^4),u,u/2^1,u/2^1 - O/2^1],x<=2*bF+dg)/\
 bY=x0*y1+x1*y0/\bP=x0*dT+x2*y0+x1*y1/\cr=x1*dT+x2*y1:=by
 obtain⟨U,h2⟩:=Xb (x0+x2) (y0+dT) x1 y1
 obtain⟨cD,gb⟩:∃c,c=x0*y0:=⟨_,rfl⟩
 obtain⟨bY,qU⟩:∃c,c=x0*y1+x1*y0:=⟨_,rfl⟩
 obtain⟨bP,je⟩:∃c,c=x0*dT+x2*y0+x1*y1:=⟨_,rfl⟩
 obtain⟨cr,uQ⟩:∃c,c=x1*dT+x2*y1:=⟨_,rfl⟩
 obtain⟨cS,sP⟩:∃c,c=x2*dT:=⟨_,rfl⟩
 have Xd:(x0+x2)*(y0+dT)+x1*y1=cD+bP+cS:=by rw[gb,je,sP];grind
 have BS:(x0+x2)*y1+x1*(y0+dT)=bY+cr:=by rw[qU,uQ];grind
 have aq:(x0+x2+x1)*(y0+dT+y1)=cD+bY+bP+cr+cS:=by rw[gb,qU,je,uQ,sP];grind
 have au:(x0+(x1*2^1+x2*2^2))*(y0+(y1*2^1+dT*2^2))=cD+2*bY+4*bP+8*cr+16*cS:=by rw[gb,qU,je,uQ,sP];grind
 rw[Xd,BS,show (if x0+x2<x1 then x1 -(x0+x2) else x0+x2 - x1)=mc x0 x1 x2 from rfl,show (if y0+dT<y1 then y1 -(y0+dT) else y0+dT - y1)=mc y0 y1 dT from rfl,aq] at U h2
 generalize mc x0 x1 x2*mc y0 y1 dT=eU at*
 have uL:eU<=cD+bY+bP+cr+cS\/cD+bY+bP+cr+cS<eU:=by omega
 refine⟨2*(cD+bP+cS),2*(bY+cr),_,eU,_,cD,bY,bP,cr,cS,2*(bY+4*cr),aq.symm,rfl,au.symm,gb,sP,U,h2,by omega,by omega,by omega,by omega,by omega,?_,qU,je,uQ⟩
 have uL:eU<=cD+bY+bP+cr+cS:=by
  by_cases h:decide (x0+x2<x1)=decide (y0+dT<y1)
  · have:=U h;omega
  · have:=h2 h;omega
 intro x ae
 simp only[List.mem_cons,List.not_mem_nil,or_false] at ae
 omega
theorem Xe {E O bF eU dg cD bY bP cr cS u:Nat} (av:(aa (2*bF+dg)).length<=1000000)
 (uR:∀x∈ [bF,eU,dg,E,O,cD,bY,bP,cr,cS,cD+cS,E/2^1,O/2^1,bP*2^2,cS*2^4,bP*2^2+cS*2^4,cD+(bP*2^2+cS*2^4),u,u/2^1,u/2^1 - O/2^1],x<=2*bF+dg)
 (h2:E/2^1 -(cD+cS)=bP) (hu:dg -(cD+(bP*2^2+cS*2^4))=u) (D9:(u/2^1 - O/2^1)%3=0) (aB:(u/2^1 - O/2^1)/3=cr) (U:O/2^1 - cr=bY):
 ∃v1 v2 oo v4 qe v6 q9 q_ q':Nat,jE [af bF,af eU]=some (af (bF+eU))/\k0 [af bF,af eU]=some (af (bF - eU))/\l' [af E,aI 1]=some (af v4)/\l' [af O,aI 1]=some (af oo)/\jE [af cD,af cS]=some (af q')/\k0 [af v4,af q']=some (af bP)/\
  lK [af bP,aI 2]=some (af q9)/\lK [af cS,aI 4]=some (af q_)/\jE [af q9,af q_]=some (af v6)/\jE [af cD,af v6]=some (af qe)/\k0 [af dg,af qe]=some (af u)/\l' [af u,aI 1]=some (af v2)/\k0 [af v2,af oo]=some (af v1)/\sK [af v1]=some (af cr)/\k0 [af oo,af cr]=some (af bY):=by
 have sz:∀x,x∈ [bF,eU,dg,E,O,cD,bY,bP,cr,cS,cD+cS,E/2^1,O/2^1,bP*2^2,cS*2^4,bP*2^2+cS*2^4,cD+(bP*2^2+cS*2^4),u,u/2^1,u/2^1 - O/2^1]->∀n,1000000<=n->(aa x).length<=n:=fun x ae n ak=>Nat.le_trans (fB (uR x ae)) (Nat.le_trans av ak)
 have cm:∀x y,(∀n,1000000<=n->(aa x).length<=n)->(∀n,1000000<=n->(aa y).length<=n)->jE [af x,af y]=some (af (x+y)):=fun x y ae aQ=>m' (ae _ (by decide)) (aQ _ (by decide))
 have le:∀x y,(∀n,1000000<=n->(aa x).length<=n)->(∀n,1000000<=n->(aa y).length<=n)->k0 [af x,af y]=some (af (x - y)):=fun x y ae aQ=>DP (x,y) ⟨ae _ (by decide),aQ _ (by decide)⟩ (by simp)
 have D_:∀x,(∀n,1000000<=n->(aa x).length<=n)->l' [af x,aI 1]=some (af (x/2^1)):=fun x ae=>LB (x,1) ⟨ae _ (by decide),show 1<=10000000000 by decide⟩ (by simp)
 have sl:∀x k,k<=4->(∀n,1000000<=n->(aa x).length<=n)->lK [af x,aI k]=some (af (x*2^k)):=fun x k ag ae=>sC (ae _ (by decide)) (by omega)
 have nh:sK [af (u/2^1 - O/2^1)]=some (af ((u/2^1 - O/2^1)/3)):=Wo _ ⟨sz _ (by simp) _ (by decide),D9⟩ (by simp)
 rw[aB] at nh
 refine⟨u/2^1 - O/2^1,u/2^1,O/2^1,E/2^1,cD+(bP*2^2+cS*2^4),bP*2^2+cS*2^4,bP*2^2,cS*2^4,cD+cS,cm _ _ (sz _ (by simp)) (sz _ (by simp)),le _ _ (sz _ (by simp)) (sz _ (by simp)),D_ _ (sz _ (by simp)),D_ _ (sz _ (by simp)),cm _ _ (sz _ (by simp)) (sz _ (by simp)),?_,sl _ _ (by decide) (sz _ (by simp)),sl _ _ (by decide) (sz _ (by simp)),cm _ _ (sz _ (by simp)) (sz _ (by simp)),cm _ _ (sz _ (by simp)) (sz _ (by simp)),?_,D_ _ (sz _ (by simp)),le _ _ (sz _ (by simp)) (sz _ (by simp)),nh,?_⟩
 · have:=le (E/2^1) (cD+cS) (sz _ (by simp)) (sz _ (by simp));rwa [h2] at this
 · have:=le dg (cD+(bP*2^2+cS*2^4)) (sz _ (by simp)) (sz _ (by simp));rwa [hu] at this
 · have:=le (O/2^1) cr (sz _ (by simp)) (sz _ (by simp));rwa [U] at this
def ni (k:Nat) (cs:List Nat):Nat->Nat
 | 0=>0
 | i+1=>ni k cs i+aD cs i*2^(32*k*i)
theorem Xf (k x0 x1 x2 y0 y1 dT:Nat):ni k [x0*y0,x0*y1+x1*y0,x0*dT+x2*y0+x1*y1,x1*dT+x2*y1,x2*dT] 5=(x0+aj k*(x1+aj k*x2))*(y0+aj k*(y1+aj k*dT)):=by
 rw[kF]
 simp only[ni,C2,yU]
 rw[Nat.mul_zero,Nat.pow_zero,Nat.mul_one (32*k),show 32*k*2=32*k+32*k by omega,show 32*k*3=32*k+32*k+32*k by omega,show 32*k*4=32*k+32*k+32*k+32*k by omega]
 simp only[Nat.pow_add]
 generalize 2^(32*k)=P
 grind
theorem D':∀z w:Nat × Nat,(fun z:Nat × Nat=>[af z.1,af z.2]) z=(fun z:Nat × Nat=>[af z.1,af z.2]) w->(fun z:Nat × Nat=>af (z.1*z.2)) z=(fun z:Nat × Nat=>af (z.1*z.2)) w:=fun z w h=>by simp only at h|-;first|(simp only[List.cons.injEq,I.int.injEq,I.bool.injEq,I.sl.injEq,b4,bZ,bX,b_,b9,bz,bI,b8,bp,true_and,and_true] at h;simp[h];done)|(simp only[I.agg.injEq,List.cons.injEq,I.int.injEq,I.bool.injEq,I.sl.injEq,b4,bZ,bX,b_,b9,bz,bI,b8,bp,true_and,and_true] at h;simp[h])
noncomputable def w4:List I->Option I:=a7 (fun z:Nat × Nat=>(aa z.1).length<=500000/\(aa z.2).length<=500000) (fun z:Nat × Nat=>[af z.1,af z.2]) (fun z:Nat × Nat=>af (z.1*z.2))
theorem Xg (z:Nat × Nat) (h:(aa z.1).length<=500000/\(aa z.2).length<=500000) {args:List I} (he:args.map I.loose= [af z.1,af z.2]):w4 args=some (af (z.1*z.2)):=bk D' z h he
noncomputable def oq (N:Nat):List I->Option I:=a7 (fun z:Nat × Nat=>((aa z.1).length<=500000/\(aa z.2).length<=500000)/\(max (aa z.1).length (aa z.2).length)<N) (fun z:Nat × Nat=>[af z.1,af z.2]) (fun z:Nat × Nat=>af (z.1*z.2))
theorem w5 {N:Nat} (z:Nat × Nat) (h:((aa z.1).length<=500000/\(aa z.2).length<=500000)/\(max (aa z.1).length (aa z.2).length)<N) {args:List I} (he:args.map I.loose= [af z.1,af z.2]):oq N args=some (af (z.1*z.2)):=bk D' z h he
theorem Xh (h:∀N,aG Tryz.prog G 201 (oq N)->aG Tryz.prog G 201 (oq (N+1))):aG Tryz.prog G 201 w4:=I' D' (fun z:Nat × Nat=>max (aa z.1).length (aa z.2).length) h
noncomputable def nj (N:Nat):FuncId->Option (List I->Option I):=cf [(201,oq N),(202,sH),(252,q5),(256,uI),(257,k0),(258,sK),(174,jE),(172,lK),(173,l')]
theorem Xi {N:Nat} (h:aG Tryz.prog G 201 (oq N)):∀f T,nj N f=some T->aG Tryz.prog G f T:=cg (by simp only[List.forall_mem_cons];exact ⟨h,LU,LR,Wx,DQ,Wp,ux,zi,DC,fun _ h=>absurd h (by simp)⟩)
theorem Mn (N:Nat):nj N 201=some (oq N):=rfl
theorem Mo (N:Nat):nj N 202=some sH:=rfl
theorem Mp (N:Nat):nj N 252=some q5:=rfl
theorem Mq (N:Nat):nj N 256=some uI:=rfl
theorem Mr (N:Nat):nj N 257=some k0:=rfl
theorem Ms (N:Nat):nj N 258=some sK:=rfl
theorem Mt (N:Nat):nj N 174=some jE:=rfl
theorem Mu (N:Nat):nj N 172=some lK:=rfl
theorem Mv (N:Nat):nj N 173=some l':=rfl
theorem Mw (N:Nat):nj N 255=none:=rfl
attribute [local simp] Mn Mo Mp Mq Mr Ms Mt Mu Mv Mw
theorem Mx (N:Nat) (Y:List cy) (h:ai) {a k n p q:Nat} (ag:h.cells p=some [aI k]) (ak:h.cells q=some [aI n]) (Xj:p<h.next) (nH:q<h.next) (cX:h.shut h.next=false) (bt:(aa a).length<=500000) (lv:2*k<=n) (ka:n<=500000):
 eB G (aH Tryz.prog) (nj N) Y (.fn 255) [af a,.ptr p 0 0,.ptr q 0 0] h=some (.agg [af (a%aj k),af (a%aj (2*k)/aj k),af (a%aj n/aj (2*k))],⟨ar (ar h.cells h.next (some [.agg [.sl [] true,.sl [] true,.sl [] true]])) h.next (some [.agg [af (a%aj k),af (a%aj (2*k)/aj k),af (a%aj n/aj (2*k))]]),h.shut,h.next+16,h.aU⟩):=by
 have b6:=wS (a,0,k) ⟨by simp only;omega,Nat.zero_le _,by simp only;omega⟩ (args:=[af a,aI 0,aI k]) (by simp)
 have bb:=wS (a,k,2*k) ⟨by simp only;omega,by simp only;omega,by simp only;omega⟩ (args:=[af a,aI k,aI (2*k)]) (by simp)
 have bC:=wS (a,2*k,n) ⟨by simp only;omega,by simp only;omega,by simp only;omega⟩ (args:=[af a,aI (2*k),aI n]) (by simp)
 simp only[fk,Nat.div_one] at b6 bb bC
 have ca:IntKind.i64.wrap (Z 2*Z k)=Z (2*k):=pZ (by omega)
 generalize a%aj k=x0 at*
 generalize a%aj (2*k)/aj k=x1 at*
 generalize a%aj n/aj (2*k)=x2 at*
 generalize 2*k=aht at*
 obtain⟨v,h',e,rfl,rfl⟩:=jB (Φ:=aH Tryz.prog) (G:=G) (tab:=nj N) (Y:=Y) (h:=h) (args:=[af a,.ptr p 0 0,.ptr q 0 0]) (R:=fun v h'=>v= .agg [af x0,af x1,af x2]/\h'=⟨ar (ar h.cells h.next (some [.agg [.sl [] true,.sl [] true,.sl [] true]])) h.next (some [.agg [af x0,af x1,af x2]]),h.shut,h.next+16,h.aU⟩) Kc (by
  unfold i255
  refine aM [0,1,2,4] fun F K=>?_
  obtain⟨f0,f1,f2,f4⟩:=K
  have H:=fi ag ak cX b6 bb (@bC) ca (@Nat.add_assoc)
  have K:=bK f0 f1 f2 f4;clear f0 f1 f2 f4
  refine cM [0,1,2,4] fun F k=>?_;clear K H
  obtain⟨f0,f1,f2,f4⟩:=k
  try refine bU ?_
  simp[jl,f4])
 exact e
theorem My {k:Nat} (u v w:Nat) (hu:(aa u).length<=k) (al:(aa v).length<=k) (hw:(aa w).length<=k):(aa (u+w+v)).length<=k+2/\(aa (mc u v w)).length<=k+2/\(aa (u+(v*2^1+w*2^2))).length<=k+3:=by
 have ahu:(aa (2^1)).length<=1:=cu.2 (by rw[mu];decide)
 have ahv:(aa (2^2)).length<=1:=cu.2 (by rw[mu];decide)
 have a1:=ki u w
 have eG:=ki (u+w) v
 have yl:=kE v (2^1)
 have Xk:=kE w (2^2)
 have Xl:=ki (v*2^1) (w*2^2)
 have ahw:=ki u (v*2^1+w*2^2)
 have Xm:mc u v w<=u+w+v:=by unfold mc;split<;>omega
 have ahx:=fB Xm
 omega
end
section
attribute [local irreducible] a'
attribute [local simp] c2 cN cq Mn Mo Mp Mq Mr Ms Mt Mu Mv Mw
def zS (k:Nat) (cs:List Nat) (i:Nat) (s:aK):Prop:=∃e,s.F 29=bV (aa (ni k cs i)) e
theorem Xn {k:Nat} {cs:List Nat} (az:cs.length=5) (ag:k<=200000) (aw:∀x∈cs,(aa x).length<=1000000):∀i,i<5->(∀e,jE [bV (aa (ni k cs i)) e,af (aD cs i*2^(32*k*i))]=some (af (ni k cs (i+1))))/\lK [af (aD cs i),aI (32*k*i)]=some (af (aD cs i*2^(32*k*i))):=by
 have ad:∀i,i<=5->(aa (ni k cs i)).length<=i*4000000:=by
  intro i
  induction i with
  | zero=>intro _;simp[ni,eD]
  | succ i a8=>
    intro ab
    have U:=a8 (by omega)
    have h2:=aw _ (C3 (l:=cs) (i:=i) (by omega))
    have aB:=kE (aD cs i) (2^(32*k*i))
    have aS:(aa (2^(32*k*i))).length<=k*i+1:=cu.2 (by rw[show 32*k*i=32*(k*i) by rw[Nat.mul_assoc],<-kF,ea];have:=jD (k*i);omega)
    have ck:=ki (ni k cs i) (aD cs i*2^(32*k*i))
    have ep:k*i<=200000*5:=Nat.mul_le_mul ag (by omega)
    show (aa (ni k cs i+aD cs i*2^(32*k*i))).length<=_
    omega
 intro i ab
 have U:=ad i (by omega)
 have h2:=aw _ (C3 (l:=cs) (i:=i) (by omega))
 have aB:=kE (aD cs i) (2^(32*k*i))
 have aS:(aa (2^(32*k*i))).length<=k*i+1:=cu.2 (by rw[show 32*k*i=32*(k*i) by rw[Nat.mul_assoc],<-kF,ea];have:=jD (k*i);omega)
 have ep:k*i<=200000*5:=Nat.mul_le_mul ag (by omega)
 have rY:32*k*i=32*(k*i):=Nat.mul_assoc ..
 exact ⟨fun e=>m' (by omega) (by omega),sC (by omega) (by omega)⟩
theorem Xo:aG Tryz.prog G 201 w4:=by
 refine Xh fun N a8=>?_
 refine bj mixed (Xi a8) J0 fun z av=>?_
 obtain⟨a,b⟩:=z
 obtain⟨⟨bt,bm⟩,gd⟩:=av
 simp only at bt bm gd|-
 obtain⟨L,bd⟩:∃L,L=(aa a).length:=⟨_,rfl⟩
 obtain⟨M,ll⟩:∃M,M=(aa b).length:=⟨_,rfl⟩
 obtain⟨n,ak⟩:∃n,n=max L M:=⟨_,rfl⟩
 have cG:=uk L M
 have dn:=um L M
 rw[<-ak] at cG
 rw[<-bd] at gd
 rw[<-ll] at gd
 have a4:a<aj n:=cu.1 (by omega)
 have bw:b<aj n:=cu.1 (by omega)
 by_cases pK:min L M<7
 · have t:=LS (a,b) ⟨by simp only;omega,by simp only;omega⟩ (args:=[af a,af b]) (by simp)
   simp only at t
   generalize a*b=c at*
   unfold i201
   refine aM [0,1,4,5,6,7,8,9,10,11,12,13,14,15,16,17,18,19,20,21,22,23,24,25,26,27,28,29,30,31,42,97,131,132,133,134] fun F K=>?_
   obtain⟨f0,f1,f4,f5,f6,f7,f8,f9,f10,f11,f12,f13,f14,f15,f16,f17,f18,f19,f20,f21,f22,f23,f24,f25,f26,f27,f28,f29,f30,f31,f42,f97,f131,f132,f133,f134⟩:=K
   have H:=c6 bd.symm ll.symm cG dn pK t
   have K:=CT f0 f1 f4 f5 f6 f7 f8 f9 f10 f11 f12 f13 f14 f15 f16 f17 f18 f19 f20 f21 f22 f23 f24 f25 f26 f27 f28 f29 f30 f31 f42 f97 f131 f132 f133 f134;clear f0 f1 f4 f5 f6 f7 f8 f9 f10 f11 f12 f13 f14 f15 f16 f17 f18 f19 f20 f21 f22 f23 f24 f25 f26 f27 f28 f29 f30 f31 f42 f97 f131 f132 f133 f134
   exact kD [0,1,4,5,6,7,8,9,10,11,12,13,14,15,16,17,18,19,20,21,22,23,24,25,26,27,28,29,30,31,42,97,131,132,133,134]
 · obtain⟨k,ag⟩:∃k,k=(n+2)/3:=⟨_,rfl⟩
   have lv:k+1<n:=by omega
   have kp:k<=200000:=by omega
   have zT:∀x,x<aj n->x=x%aj k+aj k*(x%aj (2*k)/aj k+aj k*(x%aj n/aj (2*k)))/\(aa (x%aj k)).length<=k/\(aa (x%aj (2*k)/aj k)).length<=k/\(aa (x%aj n/aj (2*k))).length<=k:=fun x ae=>by
    rw[Nat.mod_eq_of_lt ae]
    refine⟨?_,cu.2 (Nat.mod_lt _ (jD k)),cu.2 ?_,cu.2 ?_⟩
    · rw[show 2*k=k+k by omega,gB,<-Nat.div_div_eq_div_mul,Nat.mod_mul_right_div_self,Nat.mod_add_div,Nat.mod_add_div]
    · rw[show 2*k=k+k by omega,gB,Nat.mod_mul_right_div_self];exact Nat.mod_lt _ (jD k)
    · rw[Nat.div_lt_iff_lt_mul (jD _),<-gB]
      exact Nat.lt_of_lt_of_le ae (lH (by omega))
   have zU:=fun(h:ai) p q U h2 aB aS ck=>Mx N [] h (a:=a) (k:=k) (n:=n) (p:=p) (q:=q) U h2 aB aS ck (by omega) (by omega) (by omega)
   have zV:=fun(h:ai) p q U h2 aB aS ck=>Mx N [] h (a:=b) (k:=k) (n:=n) (p:=p) (q:=q) U h2 aB aS ck (by omega) (by omega) (by omega)
   have main:∃x0 x1 x2 y0 y1 dT a1 am eG b1 Ea dW bF eU dg cD bY bP cr cS:Nat,∃w6 w7:Bool,a%aj k=x0/\a%aj (2*k)/aj k=x1/\a%aj n/aj (2*k)=x2/\b%aj k=y0/\b%aj (2*k)/aj k=y1/\b%aj n/aj (2*k)=dT/\
    uI [.agg [af x0,af x1,af x2]]=some (.bL [af a1,af am,af eG,.bool w6])/\uI [.agg [af y0,af y1,af dT]]=some (.bL [af b1,af Ea,af dW,.bool w7])/\
    oq N [af x0,af y0]=some (af cD)/\oq N [af x2,af dT]=some (af cS)/\oq N [af a1,af b1]=some (af bF)/\oq N [af am,af Ea]=some (af eU)/\oq N [af eG,af dW]=some (af dg)/\
    (∃E O u v1 v2 oo v4 qe v6 q9 q_ q' ca dc:Nat,jE [af bF,af eU]=some (af ca)/\k0 [af bF,af eU]=some (af dc)/\((w6=w7/\ca=E/\dc=O)\/(w6≠w7/\dc=E/\ca=O))/\l' [af E,aI 1]=some (af v4)/\l' [af O,aI 1]=some (af oo)/\jE [af cD,af cS]=some (af q')/\k0 [af v4,af q']=some (af bP)/\
      lK [af bP,aI 2]=some (af q9)/\lK [af cS,aI 4]=some (af q_)/\jE [af q9,af q_]=some (af v6)/\jE [af cD,af v6]=some (af qe)/\k0 [af dg,af qe]=some (af u)/\l' [af u,aI 1]=some (af v2)/\k0 [af v2,af oo]=some (af v1)/\sK [af v1]=some (af cr)/\k0 [af oo,af cr]=some (af bY))/\
    ni k [cD,bY,bP,cr,cS] 5=a*b/\∀x∈ [cD,bY,bP,cr,cS],(aa x).length<=1000000:=by
    obtain⟨Xp,Xq,Xr,Xs⟩:=zT a a4
    obtain⟨sQ,Xt,Xu,Xv⟩:=zT b bw
    clear zT zU zV cG dn bd ll
    generalize a%aj k=x0 at*
    generalize a%aj (2*k)/aj k=x1 at*
    generalize a%aj n/aj (2*k)=x2 at*
    generalize b%aj k=y0 at*
    generalize b%aj (2*k)/aj k=y1 at*
    generalize b%aj n/aj (2*k)=dT at*
    have fin:=Xf k x0 x1 x2 y0 y1 dT
    rw[<-Xp,<-sQ] at fin
    obtain⟨E,O,bF,eU,dg,cD,bY,bP,cr,cS,u,sw,uL,l9,gb,sP,aw,a3,h2,hu,D9,aB,U,uR,bq,b',cY⟩:=Xc x0 x1 x2 y0 y1 dT
    obtain⟨LV,ahy,ahz⟩:=My x0 x1 x2 Xq Xr Xs
    obtain⟨LW,ahA,ahB⟩:=My y0 y1 dT Xt Xu Xv
    have b1:=kE (x0+x2+x1) (y0+dT+y1)
    have kO:=kE (x0+(x1*2^1+x2*2^2)) (y0+(y1*2^1+dT*2^2))
    rw[<-sw] at b1
    rw[<-l9] at kO
    have two:(aa 2).length<=1:=cu.2 (by rw[mu];decide)
    have bJ:=kE 2 bF
    have ch:=ki (2*bF) dg
    have av:(aa (2*bF+dg)).length<=1000000:=by omega
    rw[<-gb,<-bq,<-b',<-cY,<-sP] at fin
    obtain⟨v1,v2,oo,v4,qe,v6,q9,q_,q',c7,c8,fo⟩:=Xe av uR h2 hu D9 aB U
    refine⟨x0,x1,x2,y0,y1,dT,_,_,_,_,_,_,bF,eU,dg,cD,bY,bP,cr,cS,_,_,rfl,rfl,rfl,rfl,rfl,rfl,
     L0 (x0,x1,x2) ⟨by show (aa x0).length<=_;omega,by show (aa x1).length<=_;omega,by show (aa x2).length<=_;omega⟩ (by simp),L0 (y0,y1,dT) ⟨by show (aa y0).length<=_;omega,by show (aa y1).length<=_;omega,by show (aa dT).length<=_;omega⟩ (by simp),?_,?_,?_,?_,?_,⟨E,O,u,v1,v2,oo,v4,qe,v6,q9,q_,q',_,_,c7,c8,?_,fo⟩,fin,fun x ae=>?_⟩
    · rw[gb];exact w5 (x0,y0) ⟨⟨by simp only;omega,by simp only;omega⟩,by simp only;omega⟩ (by simp)
    · rw[sP];exact w5 (x2,dT) ⟨⟨by simp only;omega,by simp only;omega⟩,by simp only;omega⟩ (by simp)
    · rw[sw];exact w5 (x0+x2+x1,y0+dT+y1) ⟨⟨by simp only;omega,by simp only;omega⟩,by simp only;omega⟩ (by simp)
    · rw[uL];exact w5 (mc x0 x1 x2,mc y0 y1 dT) ⟨⟨by simp only;omega,by simp only;omega⟩,by simp only;omega⟩ (by simp)
    · rw[l9];exact w5 (x0+(x1*2^1+x2*2^2),y0+(y1*2^1+dT*2^2)) ⟨⟨by simp only;omega,by simp only;omega⟩,by simp only;omega⟩ (by simp)
    · by_cases h:decide (x0+x2<x1)=decide (y0+dT<y1)
      · exact .inl ⟨h,aw h⟩
      · exact .inr ⟨h,a3 h⟩
    · have Eb:x<=2*bF+dg:=uR x (by simp only[List.mem_cons,List.not_mem_nil,or_false] at ae|-;rcases ae with rfl|rfl|rfl|rfl|rfl<;>simp)
      exact Nat.le_trans (fB Eb) av
   obtain⟨x0,x1,x2,y0,y1,dT,a1,am,eG,b1,Ea,dW,bF,eU,dg,cD,bY,bP,cr,cS,w6,w7,bG,aq,au,aV,bR,eS,Mz,MA,t0,t4,t1,t2,t3,⟨E,O,u,v1,v2,oo,v4,qe,v6,q9,q_,q',ca,dc,s1,s2,Xw,iO,mb,kI,oi,og,oj,MB,MC,zf,wI,MD,ME,MF⟩,fin,cW⟩:=main
   have lk:=Xn (k:=k) (cs:=[cD,bY,bP,cr,cS]) rfl kp cW
   rw[bG,aq,au] at zU
   rw[aV,bR,eS] at zV
   clear bG aq au aV bR eS zT a4 bw cW
   have gn:(n+2)/3=k:=ag.symm
   have MG:∀i,i<5->IntKind.i64.wrap (Z 32*Z k)=Z (32*k)/\IntKind.i64.wrap (Z (32*k)*Z i)=Z (32*k*i):=fun i ab=>⟨pZ (by omega),pZ (by have:32*k*i<=32*200000*5:=Nat.mul_le_mul (Nat.mul_le_mul_left 32 kp) (by omega);omega)⟩
   have Ec:=zU ⟨ar (ar (ar (ar (fun _=>none) 6 (some [aI 0])) 6 (some [aI n])) 17 (some [aI 0])) 17 (some [aI k]),fun _=>false,31,fun _=>none⟩ 17 6 (by simp[ar]) (by simp[ar]) (by show 17<31;decide) (by show 6<31;decide) rfl
   have Ed:=zV ⟨ar (ar (ar (ar (ar (ar (fun _=>none) 6 (some [aI 0])) 6 (some [aI n])) 17 (some [aI 0])) 17 (some [aI k])) 31 (some [.agg [.sl [] true,.sl [] true,.sl [] true]])) 31 (some [.agg [af x0,af x1,af x2]]),fun _=>false,47,fun _=>none⟩ 17 6 (by simp[ar]) (by simp[ar]) (by show 17<47;decide) (by show 6<47;decide) rfl
   dsimp only at Ec Ed
   clear zU zV
   rw[<-fin]
   unfold i201
   rcases Xw with⟨U,h2,aB⟩|⟨U,h2,aB⟩
   · subst U h2 aB
     refine aM [0,1,4,5,6,7,8,9,10,11,12,13,14,15,16,17,18,19,20,21,22,23,24,25,26,27,28,29,30,31,42,97,131,132,133,134] fun F K=>?_
     obtain⟨f0,f1,f4,f5,f6,f7,f8,f9,f10,f11,f12,f13,f14,f15,f16,f17,f18,f19,f20,f21,f22,f23,f24,f25,f26,f27,f28,f29,f30,f31,f42,f97,f131,f132,f133,f134⟩:=K
     have H:=S4 bd.symm ll.symm cG dn pK gn Ec Ed Mz MA t0 t4 t1 t2 t3 s1 s2 iO mb kI oi og oj MB MC zf wI MD ME MF (@DU) (@DV) (@DW)
     have K:=CT f0 f1 f4 f5 f6 f7 f8 f9 f10 f11 f12 f13 f14 f15 f16 f17 f18 f19 f20 f21 f22 f23 f24 f25 f26 f27 f28 f29 f30 f31 f42 f97 f131 f132 f133 f134;clear f0 f1 f4 f5 f6 f7 f8 f9 f10 f11 f12 f13 f14 f15 f16 f17 f18 f19 f20 f21 f22 f23 f24 f25 f26 f27 f28 f29 f30 f31 f42 f97 f131 f132 f133 f134
     refine cM [0,1,4,5,6,7,8,9,10,11,12,13,14,15,16,17,18,19,20,21,22,23,24,25,26,27,28,29,30,31,42,97,131,132,133,134] fun F k=>?_;clear K H
     obtain⟨f0,f1,f4,f5,f6,f7,f8,f9,f10,f11,f12,f13,f14,f15,f16,f17,f18,f19,f20,f21,f22,f23,f24,f25,f26,f27,f28,f29,f30,f31,f42,f97,f131,f132,f133,f134⟩:=k
     generalize Ee: [af cD,af bY,af bP,af cr,af cS]=Ef at*
     have vY:∀i,i<5->Ef[i]? =some (af (aD [cD,bY,bP,cr,cS] i)):=fun i ab=>by
      rw[<-Ee]
      rcases show i=0\/i=1\/i=2\/i=3\/i=4 by omega with rfl|rfl|rfl|rfl|rfl<;>rfl
     generalize pN: [cD,bY,bP,cr,cS]=cs at*
     refine fA 5 (fun i s=>zS k cs i s/\s.F 133=aI i/\s.h.cells 17=some [aI k]) (zS k cs 5) (fun _=>False) ?_ ?_ ?_ (fun _ _ h=>h.elim)
     · exact ⟨⟨true,by rw[ni,eD];exact f29⟩,f133,by simp[ar]⟩
     · rintro i s ab sR ⟨⟨e,sS⟩,Eg,Eh⟩
       have ag:=sR
       replace f6:=(ag 6 rfl).trans f6;replace f131:=(ag 131 rfl).trans f131;replace f132:=(ag 132 rfl).trans f132
       clear f29 f133 sR
       have f29:=sS
       have f133:=Eg
       have K:=bA f6 f29 f131 f132 f133;clear f6 f29 f131 f132 f133
       refine bN [6,29,30,31,131,132,133,134] fun F k=>?_;clear K
       obtain⟨f6,f29,f30,f31,f131,f132,f133,f134⟩:=k
       by_cases ck:i<5
       · have sT:(Z i<(5:Int))=True:=eq_true (by simp only[Z];omega)
         have ge:=vY i ck
         obtain⟨bH,dR⟩:=lk i ck
         have bH:=bH e
         obtain⟨nK,ot⟩:=MG i ck
         have Ei:IntKind.i64.wrap (Z i+Z 1)=Z (i+1):=dD (by omega)
         generalize aD cs i=ci at*
         generalize 32*k*i=Ej at*
         generalize ci*2^Ej=Xx at*
         have H:=fH sT ge bH dR nK ot Eh ck Ei
         have K:=fi f6 f29 f30 f31 f131 f132 f133 f134;clear f6 f29 f30 f31 f131 f132 f133 f134
         refine cM [6,29,30,31,131,132,133,134] fun F k=>?_;clear K H
         obtain⟨f6,f29,f30,f31,f131,f132,f133,f134⟩:=k
         exact ⟨false,f29⟩
       · have sT:(Z i<(5:Int))=False:=eq_false (by simp only[Z];omega)
         obtain rfl:i=5:=by omega
         have H:=sT
         have K:=fi f6 f29 f30 f31 f131 f132 f133 f134;clear f6 f29 f30 f31 f131 f132 f133 f134
         refine cM [6,29,30,31,131,132,133,134] fun F k=>?_;clear K H
         obtain⟨f6,f29,f30,f31,f131,f132,f133,f134⟩:=k
         exact ⟨e,f29⟩
     · rintro s sR ⟨e,sS⟩
       clear f29 f133
       have f29:=sS
       have K:=f29;clear f29
       refine bN [4,29] fun F k=>?_;clear K
       obtain⟨f4,f29⟩:=k
       have H:=trivial
       have K:=br f4 f29;clear f4 f29
       exact kD [4,29]
   · subst h2 aB
     have ad:(w6 == w7)=false:=by simpa using U
     refine aM [0,1,4,5,6,7,8,9,10,11,12,13,14,15,16,17,18,19,20,21,22,23,24,25,26,27,28,29,30,31,42,97,131,132,133,134] fun F K=>?_
     obtain⟨f0,f1,f4,f5,f6,f7,f8,f9,f10,f11,f12,f13,f14,f15,f16,f17,f18,f19,f20,f21,f22,f23,f24,f25,f26,f27,f28,f29,f30,f31,f42,f97,f131,f132,f133,f134⟩:=K
     have H:=S5 bd.symm ll.symm cG dn pK ad gn Ec Ed Mz MA t0 t4 t1 t2 t3 s1 s2 iO mb kI oi og oj MB MC zf wI MD ME MF (@DU) (@DV) (@DW)
     have K:=CT f0 f1 f4 f5 f6 f7 f8 f9 f10 f11 f12 f13 f14 f15 f16 f17 f18 f19 f20 f21 f22 f23 f24 f25 f26 f27 f28 f29 f30 f31 f42 f97 f131 f132 f133 f134;clear f0 f1 f4 f5 f6 f7 f8 f9 f10 f11 f12 f13 f14 f15 f16 f17 f18 f19 f20 f21 f22 f23 f24 f25 f26 f27 f28 f29 f30 f31 f42 f97 f131 f132 f133 f134
     refine cM [0,1,4,5,6,7,8,9,10,11,12,13,14,15,16,17,18,19,20,21,22,23,24,25,26,27,28,29,30,31,42,97,131,132,133,134] fun F k=>?_;clear K H
     obtain⟨f0,f1,f4,f5,f6,f7,f8,f9,f10,f11,f12,f13,f14,f15,f16,f17,f18,f19,f20,f21,f22,f23,f24,f25,f26,f27,f28,f29,f30,f31,f42,f97,f131,f132,f133,f134⟩:=k
     generalize Ee: [af cD,af bY,af bP,af cr,af cS]=Ef at*
     have vY:∀i,i<5->Ef[i]? =some (af (aD [cD,bY,bP,cr,cS] i)):=fun i ab=>by
      rw[<-Ee]
      rcases show i=0\/i=1\/i=2\/i=3\/i=4 by omega with rfl|rfl|rfl|rfl|rfl<;>rfl
     generalize pN: [cD,bY,bP,cr,cS]=cs at*
     refine fA 5 (fun i s=>zS k cs i s/\s.F 133=aI i/\s.h.cells 17=some [aI k]) (zS k cs 5) (fun _=>False) ?_ ?_ ?_ (fun _ _ h=>h.elim)
     · exact ⟨⟨true,by rw[ni,eD];exact f29⟩,f133,by simp[ar]⟩
     · rintro i s ab sR ⟨⟨e,sS⟩,Eg,Eh⟩
       have ag:=sR
       replace f6:=(ag 6 rfl).trans f6;replace f131:=(ag 131 rfl).trans f131;replace f132:=(ag 132 rfl).trans f132
       clear f29 f133 sR
       have f29:=sS
       have f133:=Eg
       have K:=bA f6 f29 f131 f132 f133;clear f6 f29 f131 f132 f133
       refine bN [6,29,30,31,131,132,133,134] fun F k=>?_;clear K
       obtain⟨f6,f29,f30,f31,f131,f132,f133,f134⟩:=k
       by_cases ck:i<5
       · have sT:(Z i<(5:Int))=True:=eq_true (by simp only[Z];omega)
         have ge:=vY i ck
         obtain⟨bH,dR⟩:=lk i ck
         have bH:=bH e
         obtain⟨nK,ot⟩:=MG i ck
         have Ei:IntKind.i64.wrap (Z i+Z 1)=Z (i+1):=dD (by omega)
         generalize aD cs i=ci at*
         generalize 32*k*i=Ej at*
         generalize ci*2^Ej=Xx at*
         have H:=fH sT ge bH dR nK ot Eh ck Ei
         have K:=fi f6 f29 f30 f31 f131 f132 f133 f134;clear f6 f29 f30 f31 f131 f132 f133 f134
         refine cM [6,29,30,31,131,132,133,134] fun F k=>?_;clear K H
         obtain⟨f6,f29,f30,f31,f131,f132,f133,f134⟩:=k
         exact ⟨false,f29⟩
       · have sT:(Z i<(5:Int))=False:=eq_false (by simp only[Z];omega)
         obtain rfl:i=5:=by omega
         have H:=sT
         have K:=fi f6 f29 f30 f31 f131 f132 f133 f134;clear f6 f29 f30 f31 f131 f132 f133 f134
         refine cM [6,29,30,31,131,132,133,134] fun F k=>?_;clear K H
         obtain⟨f6,f29,f30,f31,f131,f132,f133,f134⟩:=k
         exact ⟨e,f29⟩
     · rintro s sR ⟨e,sS⟩
       clear f29 f133
       have f29:=sS
       have K:=f29;clear f29
       refine bN [4,29] fun F k=>?_;clear K
       obtain⟨f4,f29⟩:=k
       have H:=trivial
       have K:=br f4 f29;clear f4 f29
       exact kD [4,29]
end
section
attribute [local irreducible] a'
attribute [local simp] c2 cN cq
noncomputable def w8:FuncId->Option (List I->Option I):=cf [(203,uG),(202,sH),(201,w4)]
theorem Xy:∀f T,w8 f=some T->aG Tryz.prog G f T:=cg (by simp only[List.forall_mem_cons];exact ⟨LP,LU,Xo,fun _ h=>absurd h (by simp)⟩)
theorem Xz:w8 203=some uG:=rfl
theorem XA:w8 202=some sH:=rfl
theorem XB:w8 201=some w4:=rfl
theorem XC:w8 200=none:=rfl
attribute [local simp] Xz XA XB XC
noncomputable def uS:List I->Option I:=a7 (fun z:Nat × Nat=>(aa z.1).length<=500000/\(aa z.2).length<=500000/\min (aa z.1).length (aa z.2).length<48) (fun z=>[af z.1,af z.2]) (fun z=>af (z.1*z.2))
theorem zW (z:Nat × Nat) (h:(aa z.1).length<=500000/\(aa z.2).length<=500000/\min (aa z.1).length (aa z.2).length<48) {args:List I} (he:args.map I.loose= [af z.1,af z.2]):uS args=some (af (z.1*z.2)):=bk (fun z w h=>by simp only[List.cons.injEq,I.int.injEq,I.bool.injEq,I.sl.injEq,b4,bZ,bX,b_,b9,bz,bI,b8,bp,true_and,and_true] at h;simp[h]) z h he
theorem MH:aG Tryz.prog G 137 uS:=by
 refine bj mixed Xy JH fun z av=>?_
 obtain⟨a,b⟩:=z
 obtain⟨bt,bm,oL⟩:=av
 simp only at bt bm oL|-
 have t1:=LO (a,b) ⟨by simp only;omega,by simp only;omega⟩ (args:=[af a,af b]) (by simp)
 have t2:=LS (a,b) ⟨by simp only;omega,by simp only;omega⟩ (args:=[af a,af b]) (by simp)
 have t3:=Xg (a,b) ⟨bt,bm⟩ (args:=[af a,af b]) (by simp)
 simp only at t1 t2 t3
 have m:=um (aa a).length (aa b).length
 generalize min (aa a).length (aa b).length=k at*
 generalize a*b=c at*
 obtain⟨W,lb⟩:∃W:List I,W= [.agg [.int .i64 (Z 48),.fn 200 [] []],.agg [.int .i64 (Z 14),.fn 201 [] []],.agg [.int .i64 (Z 8),.fn 202 [] []]]:=⟨_,rfl⟩
 have p6:W[0]? =some (.agg [.int .i64 (Z 48),.fn 200 [] []]):=by rw[lb];rfl
 have bJ:W[1]? =some (.agg [.int .i64 (Z 14),.fn 201 [] []]):=by rw[lb];rfl
 have ch:W[2]? =some (.agg [.int .i64 (Z 8),.fn 202 [] []]):=by rw[lb];rfl
 unfold i137
 refine aM [0,1,4,6,10,11,12,13,23] fun F K=>?_
 obtain⟨f0,f1,f4,f6,f10,f11,f12,f13,f23⟩:=K
 have H:=m
 have K:=fH f0 f1 f4 f6 f10 f11 f12 f13 f23;clear f0 f1 f4 f6 f10 f11 f12 f13 f23
 refine bu [0,1,4,6,10,11,12,13,23] fun F k=>?_;clear K H
 obtain⟨f0,f1,f4,f6,f10,f11,f12,f13,f23⟩:=k
 have MI:F 10= .sl W true:=by rw[f10,lb]
 have MJ:F 11=aI 3:=f11
 clear f10 f11
 have f10:=MI
 have f11:=MJ
 clear MI MJ lb
 refine fA 3 (fun i s=>s.F 12=aI i/\(∀j,s.h.shut j=false)/\(0<i->k<48)/\(1<i->k<14)/\(2<i->k<8)) (fun s=>True) (fun s=>s.F 4=af c) ?_ ?_ ?_ ?_
 · exact ⟨f12,fun _=>rfl,by omega,by omega,by omega⟩
 · rintro i s ab ag ⟨lM,cX,U,h2,aB⟩
   replace f0:=(ag 0 rfl).trans f0;replace f1:=(ag 1 rfl).trans f1;replace f10:=(ag 10 rfl).trans f10;replace f11:=(ag 11 rfl).trans f11
   clear f12
   have f12:=lM
   have K:=bA f0 f1 f10 f11 f12;clear f0 f1 f10 f11 f12
   refine bN [0,1,4,6,10,11,12,13,23] fun F k=>?_;clear K
   obtain⟨f0,f1,f4,f6,f10,f11,f12,f13,f23⟩:=k
   rcases show i=0\/i=1\/i=2\/i=3 by omega with rfl|rfl|rfl|rfl
   · skip
     have H:=bK cX p6 m oL
     have K:=fH f0 f1 f4 f6 f10 f11 f12 f13 f23;clear f0 f1 f4 f6 f10 f11 f12 f13 f23
     exact a9 [0,1,4,6,10,11,12,13,23]
   · by_cases q7:k<14
     · skip
       have H:=bK cX bJ m q7
       have K:=fH f0 f1 f4 f6 f10 f11 f12 f13 f23;clear f0 f1 f4 f6 f10 f11 f12 f13 f23
       exact a9 [0,1,4,6,10,11,12,13,23]
     · skip
       have H:=bA cX bJ m q7 t3
       have K:=fH f0 f1 f4 f6 f10 f11 f12 f13 f23;clear f0 f1 f4 f6 f10 f11 f12 f13 f23
       exact a9 [0,1,4,6,10,11,12,13,23]
   · by_cases MK:k<8
     · skip
       have H:=bK cX ch m MK
       have K:=fH f0 f1 f4 f6 f10 f11 f12 f13 f23;clear f0 f1 f4 f6 f10 f11 f12 f13 f23
       exact a9 [0,1,4,6,10,11,12,13,23]
     · skip
       have H:=bA cX ch m MK t2
       have K:=fH f0 f1 f4 f6 f10 f11 f12 f13 f23;clear f0 f1 f4 f6 f10 f11 f12 f13 f23
       exact a9 [0,1,4,6,10,11,12,13,23]
   · skip
     have H:=trivial
     have K:=fH f0 f1 f4 f6 f10 f11 f12 f13 f23;clear f0 f1 f4 f6 f10 f11 f12 f13 f23
     exact a9 [0,1,4,6,10,11,12,13,23]
 · rintro s ag -
   replace f0:=(ag 0 rfl).trans f0;replace f1:=(ag 1 rfl).trans f1
   clear f12
   have K:=br f0 f1;clear f0 f1
   refine bN [0,1,4] fun F k=>?_;clear K
   obtain⟨f0,f1,f4⟩:=k
   have H:=t1
   have K:=b3 f0 f1 f4;clear f0 f1 f4
   exact a9 [0,1,4]
 · rintro s ag aS
   simp[aS]
end
section
attribute [local irreducible] a'
attribute [local simp] c2 cN cq
noncomputable def ML:FuncId->Option (List I->Option I):=cf [(137,uS)]
theorem XD:∀f T,ML f=some T->aG Tryz.prog G f T:=cg (by simp only[List.forall_mem_cons];exact ⟨MH,fun _ h=>absurd h (by simp)⟩)
theorem XE:ML 137=some uS:=rfl
attribute [local simp] XE
theorem XF {x y:Nat} (ae:x≠0) (aQ:y≠0):(aa x).length+(aa y).length<=(aa (x*y)).length+1:=by
 have U:=lr.2 ae
 have h2:=lr.2 aQ
 have aB:aj ((aa x).length - 1)<=x:=C5.1 (by omega)
 have aS:aj ((aa y).length - 1)<=y:=C5.1 (by omega)
 have ck:=Nat.mul_le_mul aB aS
 rw[<-gB] at ck
 have:=C5.2 ck
 omega
theorem MM {x y R:Nat} (h:x*y<=R) (eH:(aa R).length<=94):min (aa x).length (aa y).length<48:=by
 by_cases ae:x=0
 · subst ae;rw[eD];simp
 by_cases aQ:y=0
 · subst aQ;rw[eD];simp
 have U:=XF ae aQ
 have h2:=fB h
 omega
def MN (a n m:Nat) (s:aK):Prop:=∃o b e,o*b^m=a^n/\(aa o).length<=94/\(aa b).length<=94/\(a=0->b=0)/\s.F 5=bV (aa o) e/\s.F 0=af b/\s.F 1=aI m
theorem XG {o b m R:Nat} (h:o*b^m=R) (hm:m%2=1):(o*b)*(b*b)^(m/2)=R:=by
 have e:m=2*(m/2)+1:=by omega
 rw[<-h]
 generalize m/2=k at*
 subst e
 rw[Nat.pow_succ,Nat.pow_mul,Nat.pow_two,Nat.mul_assoc,Nat.mul_comm b]
theorem XH {o b m R:Nat} (h:o*b^m=R) (hm:m%2=0):o*(b*b)^(m/2)=R:=by
 have e:m=2*(m/2):=by omega
 rw[<-h]
 generalize m/2=k at*
 subst e
 rw[Nat.pow_mul,Nat.pow_two]
theorem MO {x y R:Nat} (h:x*y=R) (eH:R≠0):x<=R:=by
 rw[<-h];exact Nat.le_mul_of_pos_right _ (Nat.pos_of_ne_zero fun aF=>eH (by rw[<-h,aF,Nat.mul_zero]))
theorem MP {a n:Nat} (h:a^n=0):a=0:=Decidable.byContradiction fun aC=>absurd h (Nat.ne_of_gt (Nat.pow_pos (Nat.pos_of_ne_zero aC)))
noncomputable def zX:List I->Option I:=a7 (fun z:Nat × Nat=>(aa z.1).length<=94/\z.2<9223372036854775808/\(aa (z.1^z.2)).length<=94) (fun z=>[af z.1,aI z.2]) (fun z=>af (z.1^z.2))
theorem XI (z:Nat × Nat) (h:(aa z.1).length<=94/\z.2<9223372036854775808/\(aa (z.1^z.2)).length<=94) {args:List I} (he:args.map I.loose= [af z.1,aI z.2]):zX args=some (af (z.1^z.2)):=bk (fun z w h=>by simp only[List.cons.injEq,I.int.injEq,I.bool.injEq,I.sl.injEq,b4,bZ,bX,b_,b9,bz,bI,b8,bp,true_and,and_true] at h;simp[h]) z h he
theorem XJ:aG Tryz.prog G 152 zX:=by
 refine bj mixed XD JL fun z av=>?_
 obtain⟨a,n⟩:=z
 obtain⟨bt,ak,uu⟩:=av
 simp only at bt ak uu|-
 unfold i152
 refine aM [0,1,4,5,8,13,18] fun F K=>?_
 obtain⟨f0,f1,f4,f5,f8,f13,f18⟩:=K
 have H:=trivial
 have K:=db f0 f1 f4 f5 f8 f13 f18;clear f0 f1 f4 f5 f8 f13 f18
 refine bu [0,1,4,5,8,13,18] fun F k=>?_;clear K H
 obtain⟨f0,f1,f4,f5,f8,f13,f18⟩:=k
 refine mr (fun m s=>m<9223372036854775808/\MN a n m s) (MN a n 0) (fun _=>False) n ?_ ?_ ?_ (fun _ _ h=>h.elim)
 · exact ⟨ak,1,a,true,Nat.one_mul _,by rw[m7];decide,bt,fun h=>h,by show F 5=_;rw[f5,m7];rfl,f0,f1⟩
 · rintro m s ag ⟨hm,o,b,e,al,cj,bm,fp,dm,p6,bJ⟩
   clear f0 f1 f5
   have f0:=p6
   have f1:=bJ
   have f5:=dm
   have K:=b3 f0 f1 f5;clear f0 f1 f5
   refine bN [0,1,5,8,13,18] fun F k=>?_;clear K
   obtain⟨f0,f1,f5,f8,f13,f18⟩:=k
   have pd:(m&&&1)=m%2:=Nat.and_one_is_mod m
   have cX:min 1 64=1:=by decide
   by_cases oc:m=0
   · subst oc
     have H:=trivial
     have K:=c6 f0 f1 f5 f8 f13 f18;clear f0 f1 f5 f8 f13 f18
     refine bu [0,1,5,8,13,18] fun F k=>?_;clear K H
     obtain⟨f0,f1,f5,f8,f13,f18⟩:=k
     exact ⟨o,b,e,al,cj,bm,fp,f5,f0,f1⟩
   · have ra:0<m:=by omega
     have vC:∀R,o*b^m=R->R≠0->1<m->b*b<=R:=fun R h eH ou=>by
      have ad:b≠0:=fun aF=>eH (by rw[<-h,aF,Nat.zero_pow (by omega),Nat.mul_zero])
      have U:b^m<=R:=by rw[Nat.mul_comm] at h;exact MO h eH
      have h2:b^2<=b^m:=Nat.pow_le_pow_right (by omega) ou
      rw[Nat.pow_two] at h2
      omega
     have lJ:1<m->min (aa b).length (aa b).length<48/\(aa (b*b)).length<=94:=fun ou=>by
      by_cases eH:a^n=0
      · have:=fp (MP eH)
        subst this
        rw[Nat.zero_mul,eD];simp
      · have:=vC _ al eH ou
        exact ⟨MM this uu,Nat.le_trans (fB this) uu⟩
     by_cases MQ:m%2=1
     · have zY:=XG al MQ
       have Ek:min (aa o).length (aa b).length<48/\(aa (o*b)).length<=94:=by
        by_cases eH:a^n=0
        · have:=fp (MP eH)
          subst this
          rw[Nat.mul_zero,eD];simp
        · have:=MO zY eH
          exact ⟨MM this uu,Nat.le_trans (fB this) uu⟩
       have t1:=zW (o,b) ⟨by simp only;omega,by simp only;omega,Ek.1⟩ (args:=[bV (aa o) e,af b]) (by simp)
       simp only at t1
       by_cases ou:1<m
       · have t2:=zW (b,b) ⟨by simp only;omega,by simp only;omega,(lJ ou).1⟩ (args:=[af b,af b]) (by simp)
         have c7:=(lJ ou).2
         simp only at t2
         generalize MR:o*b=El at*
         generalize Em:b*b=dW at*
         have H:=db ra pd MQ ou cX t1 t2
         have K:=c6 f0 f1 f5 f8 f13 f18;clear f0 f1 f5 f8 f13 f18
         refine bu [0,1,5,8,13,18] fun F k=>?_;clear K H
         obtain⟨f0,f1,f5,f8,f13,f18⟩:=k
         exact ⟨m/2,by omega,by omega,El,dW,false,zY,Ek.2,c7,fun h=>by rw[<-Em,fp h],f5,f0,rfl⟩
       · have XK:m=1:=by omega
         subst XK
         generalize MR:o*b=El at*
         have H:=b3 pd cX t1
         have K:=c6 f0 f1 f5 f8 f13 f18;clear f0 f1 f5 f8 f13 f18
         refine bu [0,1,5,8,13,18] fun F k=>?_;clear K H
         obtain⟨f0,f1,f5,f8,f13,f18⟩:=k
         exact ⟨El,b,false,by rw[<-MR,Nat.pow_zero,Nat.mul_one];rw[Nat.pow_one] at al;exact al,Ek.2,bm,fp,f5,f0,rfl⟩
     · have zZ:m%2=0:=by omega
       have ou:1<m:=by omega
       have zY:=XH al zZ
       have t2:=zW (b,b) ⟨by simp only;omega,by simp only;omega,(lJ ou).1⟩ (args:=[af b,af b]) (by simp)
       have c7:=(lJ ou).2
       simp only at t2
       generalize Em:b*b=dW at*
       have H:=c6 ra pd zZ ou cX t2
       have K:=c6 f0 f1 f5 f8 f13 f18;clear f0 f1 f5 f8 f13 f18
       refine bu [0,1,5,8,13,18] fun F k=>?_;clear K H
       obtain⟨f0,f1,f5,f8,f13,f18⟩:=k
       exact ⟨m/2,by omega,by omega,o,dW,e,zY,cj,c7,fun h=>by rw[<-Em,fp h],f5,f0,rfl⟩
 · rintro s ag ⟨o,b,e,al,cj,bm,fp,dm,p6,bJ⟩
   rw[Nat.pow_zero,Nat.mul_one] at al
   subst al
   clear f0 f1 f5
   have f5:=dm
   have K:=f5;clear f5
   refine bN [4,5] fun F k=>?_;clear K
   obtain⟨f4,f5⟩:=k
   generalize a^n=r at*
   have H:=trivial
   have K:=br f4 f5;clear f4 f5
   exact a9 [4,5]
end
end
end Go.Proofs.YtemiagcencajeaaGreatDoor
