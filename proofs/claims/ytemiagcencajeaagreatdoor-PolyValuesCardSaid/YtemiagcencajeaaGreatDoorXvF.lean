/- What the claim needs of the walks, put together by a program (shake.py). -/
import Derived.Test.YtemiagcencajeaaGreatDoorXvE
set_option maxRecDepth 100000
set_option linter.unusedSimpArgs false
set_option linter.unusedVariables false
set_option linter.unusedSectionVars false
namespace Go.Proofs.YtemiagcencajeaaGreatDoor
section
set_option maxHeartbeats 8000000
open Go Go.Eng Go.RowKit
theorem Yd {m o o' P B y r x a1 z:Nat} (hm:o'+P*y=o+P*(z/m)) (aN:y=0) (h:m*o+P*B*r=P*B*a1) (aq:z=r*B+x):m*o'+P*(z%m)=P*(x+B*a1):=by
 subst aN
 have e:P*(m*(z/m)+z%m)=P*z:=by rw[Nat.div_add_mod]
 rw[aq] at e|-
 rw[aq] at hm
 generalize (r*B+x)/m=q at*
 generalize (r*B+x)%m=t at*
 grind
end
section
set_option maxHeartbeats 8000000
open Go Go.Eng Go.RowKit
attribute [local simp] aU.m aU.o aU.n aU.g eZ ej cR cx cW evalOp.eq_1 evalOp.eq_2 evalOp.eq_3 evalOp.eq_4 evalOp.eq_5 evalOp.eq_6 evalOp.eq_7 evalOp.eq_8 evalOp.eq_9 evalOp.eq_10 evalOp.eq_11 evalOp.eq_12 evalOp.eq_13 evalOp.eq_14 evalOp.eq_15 evalOp.eq_16 evalOp.eq_17 evalOp.eq_18 evalOp.eq_19 evalOp.eq_20 evalOp.eq_21 evalOp.eq_22 evalOp.eq_23 evalOp.eq_24 evalOp.eq_25 evalOp.eq_27 evalOp.eq_28 evalOp.eq_29 h7 aT.ev cw au ah.new dM I.cells I.ca I.dK I.dQ ga gd gb gf gh gg hr hs ht fi fj cut partOf bound elems hx hy hz hA hB hC hD hE hF hG hH hI fs hJ hK hL hM hN hO hP hQ hR hS hT hU hV hW hX hY hZ h0 h1 h3 h4 h5 h6 ei ec dE eT gj fA ah.close ah.set fQ h8 h9 h_ hv fB e0 eJ dj eV fM fm eW fN fO fP eQ eR eS eP gk bj fK gl fL gm gn eH gp eI gq gr gu ff hq gv gw gx gy gz gA gB gC gD gE gF gG gH gI gJ gK gL gM gN fl gO gP gQ gR gS gT gU gV gW gX gY gZ g0 g1 g2
attribute [local simp high] hn ho hp g3 g4 g5 g6 g7 g8 g9 g_ g' ha hb hc hd hf hg hh hi hj hk hl
attribute [local simp] aD List.getElem?_cons_zero List.getElem?_cons_succ dp cB e5 Nat.mod_eq_of_lt ij ik il im e_ iq ir iu
section
attribute [local irreducible] ba
attribute [local simp] cY cI cm
noncomputable def rI:FuncId->Option (List I->Option I):=cf [(170,kQ),(282,At)]
theorem Ye:∀f T,rI f=some T->aH Tryz.prog G f T:=cg (by simp only[List.forall_mem_cons];exact ⟨qv,X7,fun _ h=>absurd h (by simp)⟩)
theorem Yf:rI 170=some kQ:=rfl
theorem Yg:rI 282=some At:=rfl
theorem Yh:rI 281=none:=rfl
theorem Yi:rI 293=none:=rfl
attribute [local simp] Yf Yg Yh Yi
structure tn (bV cz cV q y a m L i:Nat) (o:List Nat) (r:Nat) (h:ah):Prop where
 ol:o.length=L
 os:Small o
 Fj:∀j,j<i->aE o j=0
 e8:r<m
 eq:m*val o+an i*r=an i*(a/an i)
 cE:h.cells bV=some [bq m]
 kk:h.cells cz=some [.ref q 0 L L]
 oz:h.cells cV=some [bq r]
 lV:h.cells q=some (bn o)
 lW:h.shut q=false
 oJ:h.shut cV=false
 jW:h.aV y=some .ready
 tp:y<h.next
theorem tn.bump {bV cz cV q y a m L i:Nat} {o:List Nat} {r:Nat} {h:ah} (ak:tn bV cz cV q y a m L i o r h) (n:Nat) (ai:h.next<=n):tn bV cz cV q y a m L i o r ⟨h.cells,h.shut,n,h.aV⟩:=
 ⟨ak.ol,ak.os,ak.Fj,ak.e8,ak.eq,ak.cE,ak.kk,ak.oz,ak.lV,ak.lW,ak.oJ,ak.jW,Nat.lt_of_lt_of_le ak.tp ai⟩
theorem Yj (Y:List cy) {F:Nat->I} {a m L i:Nat} (f3:F 3= .ptr 0 0 0) (f7:F 7= .ptr 9 0 0) (f8:F 8= .ptr 11 0 0) {h:ah} {o:List Nat} {r:Nat} (hm:m<4294967296) (ak:tn 0 9 11 8 18 a m L (i+1) o r h) (ab:i<L):
 ∃u h',ey G (aI Tryz.prog) rI (⟨18,F,[18,19],(.seq (.region false [⟨(some 9),(.mv (.t 18)),none⟩] []) (.region false [⟨(some 10),(.mv (.t 19)),none⟩] [])),(.block 1 (.region true [⟨(some 21),(.load false 1 (.t 7)),none⟩,⟨(some 22),(.mv (.t 9)),none⟩,⟨(some 23),(.load false 1 (.t 8)),none⟩,⟨(some 24),(.mv (.t 10)),none⟩,⟨(some 25),(.load false 1 (.t 3)),none⟩,⟨(some 26),(.call (.f 282) [(.t 23),(.t 24),(.t 25)]),none⟩,⟨(some 20),(.mv (.t 26)),none⟩,⟨(some 27),(.extract (.t 20) 0),none⟩,⟨(some 28),(.extract (.t 20) 1),none⟩,⟨(some 29),(.iaddrS 1 (.t 21) (.t 22)),none⟩,⟨none,(.store 1 (.t 29) (.t 27)),none⟩,⟨none,(.store 1 (.t 8) (.t 28)),none⟩] [0,0,0,0,0,28,60,124,124,255,767,2047]))⟩::Y) (.lk 18) [aK i,bq (a/an i%4294967296)] h=some (u,h')/\u= .bool true/\(∃o' ja,tn 0 9 11 8 18 a m L i o' ja h')/\h.next<=h'.next/\∀j,j=14->h'.cells j=h.cells j:=by
 have ae:a/an i%4294967296<4294967296:=Nat.mod_lt _ (by decide)
 obtain⟨x,jh⟩:∃x,x=a/an i%4294967296:=⟨_,rfl⟩
 rw[<-jh] at ae|-
 have t:=X6 (r,x,m) ⟨ak.e8,ae,hm⟩ (args:=[bq r,bq x,bq m]) (by simp)
 simp only at t
 obtain⟨d1,d2⟩:=M_ ak.e8 ae hm
 have iG:=ak.ol
 have st:=Yd (y:=aE o i) (nw (two r x/m) (show i<o.length by omega)) (ak.Fj i (by omega)) (by have:=ak.eq;rw[eo] at this;exact this) rfl
 rw[jh,<-eo,rq,Nat.mod_add_div] at st
 rw[<-jh] at st
 have go:=kp (show i<o.length by omega)
 have sz:=kR (show 0<o.length by omega)
 have set:=pE o i (two r x/m)
 have cE:=ak.cE
 have kk:=ak.kk
 have oz:=ak.oz
 have lV:=ak.lV
 have lW:=ak.lW
 have oJ:=ak.oJ
 have tp:=ak.tp
 clear jh
 generalize two r x=z at*
 refine DX (L:=⟨18,F,[18,19],(.seq (.region false [⟨(some 9),(.mv (.t 18)),none⟩] []) (.region false [⟨(some 10),(.mv (.t 19)),none⟩] [])),(.block 1 (.region true [⟨(some 21),(.load false 1 (.t 7)),none⟩,⟨(some 22),(.mv (.t 9)),none⟩,⟨(some 23),(.load false 1 (.t 8)),none⟩,⟨(some 24),(.mv (.t 10)),none⟩,⟨(some 25),(.load false 1 (.t 3)),none⟩,⟨(some 26),(.call (.f 282) [(.t 23),(.t 24),(.t 25)]),none⟩,⟨(some 20),(.mv (.t 26)),none⟩,⟨(some 27),(.extract (.t 20) 0),none⟩,⟨(some 28),(.extract (.t 20) 1),none⟩,⟨(some 29),(.iaddrS 1 (.t 21) (.t 22)),none⟩,⟨none,(.store 1 (.t 29) (.t 27)),none⟩,⟨none,(.store 1 (.t 8) (.t 28)),none⟩] [0,0,0,0,0,28,60,124,124,255,767,2047]))⟩) (Y':=Y) (by simp[oe]) rfl ?_
 simp only[nc]
 have eB:au (au F 18 (aK i)) 19 (bq x) 3= .ptr 0 0 0:=by simp[au,f3]
 have kn:au (au F 18 (aK i)) 19 (bq x) 7= .ptr 9 0 0:=by simp[au,f7]
 have jK:au (au F 18 (aK i)) 19 (bq x) 8= .ptr 11 0 0:=by simp[au,f8]
 refine bd (bl nW ?_)
 simp
 refine bl nW ?_
 simp[ak.jW,Nat.add_assoc]
 refine jX (bl nW ?_)
 simp(disch:=omega) [aD,List.getElem?_cons_zero,List.getElem?_cons_succ,dp,cB,e5,Nat.mod_eq_of_lt,ij,ik,il,im,e_,iq,ir,iu,f3,f7,f8,cE,kk,oz,lV,lW,oJ,t,go,sz,set,ab,Nat.add_assoc,uk,kD,yR,o1,qY]
 refine⟨by decide,o.set i (z/m),z%m,by rw[List.length_set];exact iG,nx ak.os d1,fun j aC=>?_,Nat.mod_lt _ (by have:=ak.e8;omega),st,by simp[au,cE],by simp[au,kk],by simp[au],by simp[au],lW,oJ,by simp[au],by show 18<h.next+14;omega⟩
 rw[n0 _ _ (by omega),if_neg (by omega)]
 exact ak.Fj j (by omega)
theorem Yk (Y:List cy) (h:ah) (l:List Nat) (e:Bool):
 ey G (aI Tryz.prog) rI Y (.fn 281) [bW l e] h=some (.fn 293 [] [.ptr h.next 0 0],⟨au h.cells h.next (some [bW l e]),h.shut,h.next+4,h.aV⟩):=by
 obtain⟨v,h',e,rfl,rfl⟩:=je (Φ:=aI Tryz.prog) (G:=G) (tab:=rI) (Y:=Y) (h:=h) (args:=[bW l e]) (R:=fun v h'=>v= .fn 293 [] [.ptr h.next 0 0]/\h'=⟨au h.cells h.next (some [bW l e]),h.shut,h.next+4,h.aV⟩) Lu (by
  unfold i281
  refine aJ [0,1,2] fun F K=>?_
  obtain⟨f0,f1,f2⟩:=K
  have H:=(@Nat.add_assoc)
  have K:=bA f0 f1 f2;clear f0 f1 f2
  refine cu [0,1,2] fun F k=>?_;clear K H
  obtain⟨f0,f1,f2⟩:=k
  try refine b3 ?_
  simp[iM,f2])
 exact e
noncomputable def vp:List I->Option I:=a9 (fun z:Nat × Nat=>(aa z.1).length<=100000000/\z.2<4294967296) (fun z=>[af z.1,bq z.2]) (fun z=>if z.2=0 then .bL [.sl [] false,bq 0,aK 3] else .bL [af (z.1/z.2),bq (z.1%z.2),aK 0])
theorem Yl (z:Nat × Nat) (h:(aa z.1).length<=100000000/\z.2<4294967296) {args:List I} (he:args.map I.loose= [af z.1,bq z.2]):vp args=some (if z.2=0 then .bL [.sl [] false,bq 0,aK 3] else .bL [af (z.1/z.2),bq (z.1%z.2),aK 0]):=bk (fun z w h=>by simp only[List.cons.injEq,I.int.injEq,I.bool.injEq,I.sl.injEq,bX,bU,bS,b4,b2,bo,bE,bZ,bj,true_and,and_true] at h;simp[h]) z h he
theorem Ng:aH Tryz.prog G 259 vp:=by
 refine bf mixed Ye Ll fun z aq=>?_
 obtain⟨a,m⟩:=z
 obtain⟨br,hm⟩:=aq
 simp only at br hm|-
 unfold i259
 by_cases oF:m=0
 · rw[if_pos oF]
   subst oF
   refine aJ [0,1,3,4,5,6,7,8,9,10,12,17,18,19] fun F K=>?_
   obtain⟨f0,f1,f3,f4,f5,f6,f7,f8,f9,f10,f12,f17,f18,f19⟩:=K
   have H:=trivial
   have K:=sR f0 f1 f3 f4 f5 f6 f7 f8 f9 f10 f12 f17 f18 f19;clear f0 f1 f3 f4 f5 f6 f7 f8 f9 f10 f12 f17 f18 f19
   exact j1 [0,1,3,4,5,6,7,8,9,10,12,17,18,19]
 · rw[if_neg oF]
   have aA:=dx a
   obtain⟨L,bh⟩:∃L,L=(aa a).length:=⟨_,rfl⟩
   have a6:a<an L:=cC.1 (by omega)
   have aS:Z L*4<=140737488355328:=by simp only[Z];omega
   refine aJ [0,1,3,4,5,6,7,8,9,10,12,17,18,19] fun F K=>?_
   obtain⟨f0,f1,f3,f4,f5,f6,f7,f8,f9,f10,f12,f17,f18,f19⟩:=K
   have H:=bx oF aS (@An) (@Yk) bh.symm
   have K:=sR f0 f1 f3 f4 f5 f6 f7 f8 f9 f10 f12 f17 f18 f19;clear f0 f1 f3 f4 f5 f6 f7 f8 f9 f10 f12 f17 f18 f19
   refine cu [0,1,3,4,5,6,7,8,9,10,12,17,18,19] fun F k=>?_;clear K H
   obtain⟨f0,f1,f3,f4,f5,f6,f7,f8,f9,f10,f12,f17,f18,f19⟩:=k
   refine jX (DW f17 Ly ?_)
   have eB:=f3
   have kn:=f7
   have jK:=f8
   clear f0 f1 f3 f4 f5 f6 f7 f8 f9 f10 f12 f17 f18 f19
   unfold i293
   simp
   have tg:IntKind.i64.wrap (Z L - Z 1)=fb L:=kd (by omega)
   refine aJ [0,1,3,8,18] fun F K=>?_
   obtain⟨f0,f1,f3,f8,f18⟩:=K
   have H:=bs tg bh.symm
   have K:=bx f0 f1 f3 f8 f18;clear f0 f1 f3 f8 f18
   refine cu [0,1,3,8,18] fun F k=>?_;clear K H
   obtain⟨f0,f1,f3,f8,f18⟩:=k
   refine mY (fun k s=>k<=L/\(∃o r,tn 0 9 11 8 18 a m L k o r s.h)/\s.h.cells 14=some [af a]/\s.F 3= .int .i64 (fb k)) (fun s=>∃o r,tn 0 9 11 8 18 a m L 0 o r s.h) (fun _=>False) L ?_ ?_ ?_ (fun _ _ h=>h.elim)
   · refine⟨Nat.le_refl _,⟨List.replicate L 0,0,?_⟩,by simp[au],f3⟩
     exact ⟨by simp,qt _,fun j _=>xn _ _,by omega,by simp[s3,Nat.div_eq_of_lt a6],by simp[au],by simp[au],by simp[au],by simp[au],by simp,by simp,by simp[au],by simp⟩
   · rintro k s ag ⟨ajD,⟨o,r,ak⟩,rB,Nh⟩
     replace f0:=(ag 0 rfl).trans f0;replace f1:=(ag 1 rfl).trans f1
     clear f3
     have f3:=Nh
     clear Nh
     have K:=bA f0 f1 f3;clear f0 f1 f3
     refine bO [0,1,3,8,18] fun F k=>?_;clear K
     obtain⟨f0,f1,f3,f8,f18⟩:=k
     cases k with
     | zero=>
       rw[qq] at f3
       have H:=(@tl)
       have K:=bx f0 f1 f3 f8 f18;clear f0 f1 f3 f8 f18
       refine cu [0,1,3,8,18] fun F k=>?_;clear K H
       obtain⟨f0,f1,f3,f8,f18⟩:=k
       exact ⟨o,r,ak.bump _ (by omega)⟩
     | succ i=>
       rw[oE] at f3
       have nD:=(kc (show i<(aa a).length by omega)).symm
       rw[iF] at nD
       have k8:=fun n ai=>ak.bump n ai
       have qC:i<L:=by omega
       have Ym:IntKind.i64.wrap (Z i - Z 1)=fb i:=kd (by omega)
       obtain⟨u,h',o6,rfl,u',sJ,rJ⟩:=Yj [] eB kn jK hm (k8 (s.h.next+10) (by omega)) qC
       have rJ:=rJ 14 rfl
       simp only at sJ rJ
       rw[rB] at rJ
       have tp:=ak.tp
       have H:=de rB nD qC Ym o6 (@Nat.add_assoc) bh.symm
       have K:=bx f0 f1 f3 f8 f18;clear f0 f1 f3 f8 f18
       refine cu [0,1,3,8,18] fun F k=>?_;clear K H
       obtain⟨f0,f1,f3,f8,f18⟩:=k
       obtain⟨o',ja,u'⟩:=u'
       exact ⟨i,Nat.lt_succ_self i,by omega,⟨o',ja,u'.bump _ (by omega)⟩,rJ,by first|rfl|exact f3⟩
   · rintro s ag ⟨o,r,ak⟩
     have kk:=ak.kk
     have oz:=ak.oz
     have lV:=ak.lV
     have iG:=ak.ol
     have tp:=ak.tp
     have Yn:8<s.h.next:=by omega
     have Yo:9<s.h.next:=by omega
     have Yp:11<s.h.next:=by omega
     have e:=ak.eq
     rw[fE,Nat.one_mul,Nat.one_mul,Nat.div_one] at e
     have vq:=ak.e8
     have ao:val o=a/m:=by rw[<-e,Nat.mul_add_div (by omega),Nat.div_eq_of_lt vq,Nat.add_zero]
     have av:r=a%m:=by rw[<-e,Nat.mul_add_mod,Nat.mod_eq_of_lt vq]
     have b':=py (e:=false) ak.os (show o.length<=1073741824 by omega)
     rw[ao] at b'
     have ez:=Ap (show o.length<=L by omega)
     have nn:=Ao o
     have iP:=qB o
     have hle:L<=(bn o).length:=by omega
     rw[show (o.map fun n=>I.int .u32 (Z n))=bn o from rfl] at b'
     refine⟨trivial,⟨_,rfl⟩,?_⟩
     simp only[ak.jW]
     rw[<-av]
     generalize a/m=ajE at*
     simp
     have f7:=kn
     have f8:=jK
     have K:=bs f7 f8;clear f7 f8
     refine bO [4,5,6,7,8] fun F k=>?_;clear K
     obtain⟨f4,f5,f6,f7,f8⟩:=k
     have H:=kb kk oz lV b' ez nn hle Yn Yo Yp
     have K:=bx f4 f5 f6 f7 f8;clear f4 f5 f6 f7 f8
     exact j1 [4,5,6,7,8]
end
section
attribute [local irreducible] ba
attribute [local simp] cY cI cm
noncomputable def j4:FuncId->Option (List I->Option I):=cf [(171,n2),(259,vp),(260,Au),(261,vo),(173,mA),(241,ta),(245,tb)]
theorem Yq:∀f T,j4 f=some T->aH Tryz.prog G f T:=cg (by simp only[List.forall_mem_cons];exact ⟨xr,Ng,X9,X',EV,Mi,Mk,fun _ h=>absurd h (by simp)⟩)
theorem Av:j4 171=some n2:=rfl
theorem Yr:j4 259=some vp:=rfl
theorem Aw:j4 260=some Au:=rfl
theorem Ax:j4 261=some vo:=rfl
theorem Ay:j4 173=some mA:=rfl
theorem Ni:j4 241=some ta:=rfl
theorem Nj:j4 245=some tb:=rfl
theorem Az:j4 170=none:=rfl
theorem Ys:j4 238=none:=rfl
theorem AA:j4 172=none:=rfl
theorem xN:j4 262=none:=rfl
theorem xO:j4 263=none:=rfl
theorem Yt:j4 205=none:=rfl
attribute [local simp] Av Yr Aw Ax Ay Ni Nj Az Ys AA xN xO Yt
structure Own (h h':ah) (v:I) (o:List Nat):Prop where
 kept:Kept h h'
 val:(o= []/\v= .sl [] true)\/∃r,v= .ref r 0 o.length o.length/\h.next<=r/\fv h' r o
theorem Yu (o:List Nat) (n:Nat):List.take n (bn o)=bn (o.take n):=by rw[bn,bn,List.map_take]
theorem Yw (o:List Nat):(bn o).all (fun e=>e.cells.length == 1&&e.cells.all I.ca)=true:=by simp[bn,I.cells,I.ca]
theorem Yx (o:List Nat):(bn o).all (fun e=>e.cells.length == 1)=true:=by simp[bn,I.cells]
theorem Yy {r:Nat} {h:ah} {q n N:Nat} {o:List Nat} (J:h.cells q=some (bn o)) (ai:n<=o.length) (aD:0<n) (ay:n<=1000000000):
 kK r 1 4 h (.sl [] true) (.ref q 0 n N)=some (.ref r 0 n n,h.new r (bn (o.take n)),.wr):=by
 have e:elems h (.ref q 0 n N)=some (bn (o.take n)):=by
  simp only[elems,J];rw[if_pos (by rw[qB];omega),List.drop_zero,Yu]
 have hle:(bn (o.take n)).length=n:=by rw[qB,List.length_take];omega
 unfold kK
 rw[e]
 simp only[Option.bind_some]
 rw[if_pos ⟨by decide,by decide,Yw _⟩,if_neg (by omega)]
 simp only[kC,hle,List.length_nil,Nat.zero_add,List.nil_append,Bool.false_eq_true,if_false]
 rw[if_pos (by refine⟨?_,?_,aD,?_⟩<;>first|trivial|omega|rfl)]
theorem Yz (Y:List cy) (h:ah) (cZ:∀j,h.shut j=false) {q n:Nat} {o:List Nat} (V:fv h q o) (ai:n<=o.length) (aD:0<o.length) (ay:o.length<=1000000000):
 ∃v h',ey G (aI Tryz.prog) j4 Y (.fn 238) [.ref q 0 n o.length] h=some (v,h')/\Own h h' v (o.take n):=by
 refine je Ef ?_
 have dJ:=V.cells
 have c6:=kR aD
 unfold i238
 by_cases me:n=0
 · subst me
   have el:∀m p,elems ⟨h.cells,h.shut,m,p⟩ (.ref q 0 0 o.length)=some []:=fun m p=>by simp[elems,dJ]
   have ap:∀m p r,kK r 1 4 ⟨h.cells,h.shut,m,p⟩ (.sl [] true) (.ref q 0 0 o.length)=some (.sl [] true,⟨h.cells,h.shut,m,p⟩,.wr):=fun m p r=>by
    unfold kK;rw[el];simp[kC]
   refine aJ [0,2,4] fun F K=>?_
   obtain⟨f0,f2,f4⟩:=K
   have H:=bs (@aD) ap
   have K:=bA f0 f2 f4;clear f0 f2 f4
   refine cu [0,2,4] fun F k=>?_;clear K H
   obtain⟨f0,f2,f4⟩:=k
   try refine b3 ?_
   simp[iM,f2]
   exact ⟨(Kept.qn h).bump _ (by omega),.inl ⟨by simp,rfl⟩⟩
 · have ap:∀m p r,kK r 1 4 ⟨h.cells,h.shut,m,p⟩ (.sl [] true) (.ref q 0 n o.length)=some (.ref r 0 n n,⟨au h.cells r (some (bn (o.take n))),h.shut,m,p⟩,.wr):=fun m p r=>Yy dJ ai (by omega) (by omega)
   have hle:(o.take n).length=n:=by rw[List.length_take];omega
   refine aJ [0,2,4] fun F K=>?_
   obtain⟨f0,f2,f4⟩:=K
   have H:=bs (@aD) ap
   have K:=bA f0 f2 f4;clear f0 f2 f4
   refine cu [0,2,4] fun F k=>?_;clear K H
   obtain⟨f0,f2,f4⟩:=k
   try refine b3 ?_
   simp[iM,f2]
   exact ⟨(Kept.qn h).new _ _ (by omega) (by omega),.inr ⟨_,by rw[hle],by omega,⟨by simp only[au,if_true],cZ _,by show h.next+1+2+2<h.next+1+2+4;omega⟩⟩⟩
theorem Own.trans {a b c:ah} {v:I} {o:List Nat} (k:Kept a b) (x:Own b c v o):Own a c v o:=
 ⟨k.trans x.kept,x.val.imp id fun⟨r,U,h2,aB⟩=>⟨r,U,Nat.le_trans k.next h2,aB⟩⟩
theorem fv.kept {h h':ah} {q:Nat} {o:List Nat} (V:fv h q o) (k:Kept h h'):fv h' q o:=⟨by rw[k.cells q V.d_];exact V.cells,by rw[k.shut];exact V.cc,Nat.lt_of_lt_of_le V.d_ k.next⟩
theorem Fk (Y:List cy) (h:ah) (cZ:∀j,h.shut j=false) {q:Nat} {o:List Nat} (V:fv h q o) (aw:Small o) (aD:0<o.length) (ay:o.length<=1000000000):
 ∃v h',ey G (aI Tryz.prog) j4 Y (.fn 170) [.ref q 0 o.length o.length] h=some (v,h')/\Own h h' v (aa (val o)):=by
 refine je Ec ?_
 have c6:=kR aD
 unfold i170
 refine aJ [0,2,3,15] fun F K=>?_
 obtain⟨f0,f2,f3,f15⟩:=K
 have H:=trivial
 have K:=bN f0 f2 f3 f15;clear f0 f2 f3 f15
 refine cu [0,2,3,15] fun F k=>?_;clear K H
 obtain⟨f0,f2,f3,f15⟩:=k
 refine mY (fun m s=>m<=o.length/\(∀i,m<=i->aE o i=0)/\Kept h s.h/\s.F 3=aK m) (fun s=>∃m,m<=o.length/\(∀i,m<=i->aE o i=0)/\(m=0\/aE o (m - 1)≠0)/\Kept h s.h/\s.F 3=aK m) (fun _=>False) o.length ?_ ?_ ?_ (fun _ _ h=>h.elim)
 · exact ⟨Nat.le_refl _,fun i ab=>rn ab,(Kept.qn h).bump _ (by omega),by first|rfl|exact f3⟩
 · rintro m s ag ⟨hm,aq,K,eB⟩
   replace f0:=(ag 0 rfl).trans f0
   clear f3
   have f3:=eB
   have dJ:=(V.kept K).cells
   have K:=bs f0 f3;clear f0 f3
   refine bO [0,3,15] fun F k=>?_;clear K
   obtain⟨f0,f3,f15⟩:=k
   cases m with
   | zero=>
     have H:=trivial
     have K:=bA f0 f3 f15;clear f0 f3 f15
     refine cu [0,3,15] fun F k=>?_;clear K H
     obtain⟨f0,f3,f15⟩:=k
     exact ⟨0,by omega,aq,.inl rfl,K.bump _ (by omega),by first|rfl|exact f3⟩
   | succ m=>
     have go:=kp (show m<o.length by omega)
     have Nk:m<o.length:=by omega
     have hw:IntKind.i64.wrap (Z (m+1) - Z 1)=Z m:=by rw[cB (by omega) (by omega)];rfl
     by_cases ae:aE o m=0
     · skip
       have H:=c9 dJ c6 go Nk hw ae
       have K:=bA f0 f3 f15;clear f0 f3 f15
       refine cu [0,3,15] fun F k=>?_;clear K H
       obtain⟨f0,f3,f15⟩:=k
       refine⟨m,by omega,by omega,fun i ab=>?_,K.bump _ (by omega),by first|rfl|exact f3⟩
       by_cases e:i=m
       · subst e;exact ae
       · exact aq i (by omega)
     · skip
       have H:=c9 dJ c6 go Nk hw ae
       have K:=bA f0 f3 f15;clear f0 f3 f15
       refine cu [0,3,15] fun F k=>?_;clear K H
       obtain⟨f0,f3,f15⟩:=k
       exact ⟨m+1,hm,aq,.inr ae,K.bump _ (by omega),by first|rfl|exact f3⟩
 · rintro s ag ⟨m,hm,aq,jF,K,eB⟩
   replace f0:=(ag 0 rfl).trans f0
   clear f3
   have f3:=eB
   have aO:=Em aw hm aq jF
   obtain⟨v,h',ao,own⟩:=Yz Y ⟨s.h.cells,s.h.shut,s.h.next+5,s.h.aV⟩ (fun j=>by show s.h.shut j=false;rw[K.shut];exact cZ j) ((V.kept K).bump (s.h.next+5) s.h.aV (by omega)) hm aD ay
   rw[aO] at own
   have K:=bs f0 f3;clear f0 f3
   refine bO [0,2,3] fun F k=>?_;clear K
   obtain⟨f0,f2,f3⟩:=k
   have H:=bs ao hm
   have K:=bA f0 f2 f3;clear f0 f2 f3
   refine cu [0,2,3] fun F k=>?_;clear K H
   obtain⟨f0,f2,f3⟩:=k
   try refine b3 ?_
   simp[iM,f2]
   exact Own.trans (K.bump _ (by omega)) own
theorem AB {h g:ah} (K:Kept h g) {q:Nat} (aM:h.next<=q) (v:Option (List I)) (n:Nat) (p:Nat->Option fX) (ai:g.next<=n) (aF:p=g.aV:=by rfl):Kept h ⟨au g.cells q v,g.shut,n,p⟩:=
 ⟨Nat.le_trans K.next ai,fun j aC=>by
   have:j≠q:=by omega
   simp only[au,if_neg this];exact K.cells j aC,K.shut,by rw[aF];exact K.aV⟩
def Nl (h:ah) (a r w L i:Nat) (s:aL):Prop:=(∃q,h.next<=q/\∃o c,o.length=i/\Small o/\c<2^r/\val o+an i*c=a%an i*2^r/\s.F 5= .ref q 0 (w+i) (w+L+1)/\s.F 7=bq c/\Row s.h q (List.replicate w 0++o) (w+L+1))/\Kept h s.h
theorem Nm (Y:List cy) (h:ah) (cZ:∀j,h.shut j=false) {a n:Nat} {e:Bool} (dt:a≠0) (br:(aa a).length<=100000000) (ai:n<=100000000):
 ∃v h',ey G (aI Tryz.prog) j4 Y (.fn 172) [bW (aa a) e,aK n] h=some (v,h')/\Own h h' v (aa (a*2^n)):=by
 refine je Ed ?_
 have aA:=dx a
 have bP:aa a≠ []:=fun h=>dt (iW.1 h)
 obtain⟨w,hw⟩:∃w,w=n/32:=⟨_,rfl⟩
 obtain⟨r,aR⟩:∃r,r=n%32:=⟨_,rfl⟩
 have mw:r<32:=by omega
 have iz:an w*(a*2^r)=a*2^n:=by
  rw[kP,Nat.mul_left_comm,<-Nat.pow_add,show 32*w+r=n by omega]
 have bC:2^r<=2147483648:=Nat.pow_le_pow_right (n:=2) (by decide) (show r<=31 by omega)
 obtain⟨L,bh⟩:∃L,L=(aa a).length:=⟨_,rfl⟩
 have a6:a<an L:=cC.1 (by omega)
 have EN:0<L:=by rw[bh];exact lG.2 dt
 unfold i172
 have xw:Z (w+L+1)*4<=140737488355328:=by simp only[Z];omega
 have vc:w<=w+L+1:=by omega
 have WR:n<9223372036854775808:=by omega
 refine aJ [0,1,4,5,6,7,9,12,24,25,26,27] fun F K=>?_
 obtain⟨f0,f1,f4,f5,f6,f7,f9,f12,f24,f25,f26,f27⟩:=K
 have H:=de hw.symm aR.symm bh.symm bP xw vc EN
 have K:=k4 f0 f1 f4 f5 f6 f7 f9 f12 f24 f25 f26 f27;clear f0 f1 f4 f5 f6 f7 f9 f12 f24 f25 f26 f27
 refine cu [0,1,4,5,6,7,9,12,24,25,26,27] fun F k=>?_;clear K H
 obtain⟨f0,f1,f4,f5,f6,f7,f9,f12,f24,f25,f26,f27⟩:=k
 refine fR L (fun i s=>Nl h a r w L i s/\s.F 26=aK i) (Nl h a r w L L) (fun _=>False) ?_ ?_ ?_ (fun _ _ h=>h.elim)
 · refine⟨⟨⟨_,by omega,[],0,rfl,Small.nil,Nat.pow_pos (by decide),by simp[val,fE,Nat.mod_one],f5,f7,?_,cZ _,?_,?_⟩,(Kept.qn h).new _ _ (by omega) (by omega)⟩,f26⟩
   · rw[List.append_nil,Mv vc,<-Mu];simp[au]
   · show h.next+1+3+8<h.next+1+3+10+3+1+3;omega
   · simp;omega
 · rintro i s ab ag ⟨⟨⟨q,n1,o,c,az,aw,qx,al,dy,kn,R⟩,K⟩,xz⟩
   replace f0:=(ag 0 rfl).trans f0;replace f6:=(ag 6 rfl).trans f6;replace f24:=(ag 24 rfl).trans f24;replace f25:=(ag 25 rfl).trans f25
   clear f5 f7 f26
   have f5:=dy
   have f7:=kn
   have f26:=xz
   have K:=de f0 f5 f6 f7 f24 f25 f26;clear f0 f5 f6 f7 f24 f25 f26
   refine bO [0,5,6,7,9,24,25,26,27] fun F k=>?_;clear K
   obtain⟨f0,f5,f6,f7,f9,f24,f25,f26,f27⟩:=k
   by_cases aS:i<L
   · have ae:=aA.aE i
     have eA:=(kc (show i<(aa a).length by omega)).symm
     have st:=My al
     rw[<-iF] at st
     have j7:=Mw (x:=aE (aa a) i) (by omega) qx
     have du:=Mx (x:=aE (aa a) i) (by omega) qx
     have hlen:(List.replicate w 0++o).length=w+i:=by simp[az]
     have ap:=R.app (by omega) (by omega) (aE (aa a) i*2^r%4294967296+c)
     rw[hlen] at ap
     have cS:min r 32=r:=by omega
     have dA:min r 64=r:=by omega
     have jA:aE (aa a) i*2^r/4294967296<2^r:=by
      rw[Nat.div_lt_iff_lt_mul (by decide),Nat.mul_comm]
      exact Nat.mul_lt_mul_of_pos_left ae (Nat.pow_pos (by decide))
     have EO:aE (aa a) i*2^r<18446744073709551616:=Nat.lt_of_le_of_lt (Nat.mul_le_mul (show aE (aa a) i<=4294967295 by omega) bC) (by decide)
     have te:aE (aa a) i*2^r/4294967296<4294967296:=by omega
     have EP:=fun m p hm=>R.put (m:=m) (p:=p) (by omega) (aE (aa a) i*2^r%4294967296+c) hm
     have H:=kb aS eA j7 du ap cS dA EO te bh.symm
     have K:=ia f0 f5 f6 f7 f9 f24 f25 f26 f27;clear f0 f5 f6 f7 f9 f24 f25 f26 f27
     refine cu [0,5,6,7,9,24,25,26,27] fun F k=>?_;clear K H
     obtain⟨f0,f5,f6,f7,f9,f24,f25,f26,f27⟩:=k
     refine⟨⟨q,n1,o++ [aE (aa a) i*2^r%4294967296+c],_,by simp[az],oD.2 ⟨aw,lF.2 ⟨du,Small.nil⟩⟩,jA,?_,f5,f7,?_⟩,AB K n1 _ _ _ (by omega)⟩
     · rw[mu,az];simpa[val] using st
     · rw[<-List.append_assoc];refine EP _ _ ?_;omega
   · have my:i=L:=by omega
     subst my
     have H:=aS
     have K:=ia f0 f5 f6 f7 f9 f24 f25 f26 f27;clear f0 f5 f6 f7 f9 f24 f25 f26 f27
     refine cu [0,5,6,7,9,24,25,26,27] fun F k=>?_;clear K H
     obtain⟨f0,f5,f6,f7,f9,f24,f25,f26,f27⟩:=k
     exact ⟨⟨q,n1,o,c,az,aw,qx,al,f5,f7,R.bump _ _ (by omega)⟩,Kept.bump K _ (by omega)⟩
 · rintro s ag ⟨⟨q,n1,o,c,az,aw,qx,al,dy,kn,R⟩,K⟩
   clear f5 f7 f26
   have f5:=dy
   have f7:=kn
   have hlen:(List.replicate w 0++o).length=w+L:=by simp[az]
   have te:c<4294967296:=by omega
   have ap:=R.app (by omega) (by omega) c
   rw[hlen] at ap
   have oj:Small ((List.replicate w 0++o)++ [c]):=oD.2 ⟨oD.2 ⟨qt w,aw⟩,lF.2 ⟨te,Small.nil⟩⟩
   have jm:((List.replicate w 0++o)++ [c]).length=w+L+1:=by simp[az];omega
   rw[Nat.mod_eq_of_lt a6] at al
   have lP:val ((List.replicate w 0++o)++ [c])=a*2^n:=by
    rw[<-iz,List.append_assoc,Ex,mu,az]
    simp only[val,Nat.mul_zero,Nat.add_zero];rw[al]
   rw[Mt jm] at ap
   generalize (List.replicate w 0++o)++ [c]=xs at*
   rw[show (xs.map fun x=>I.int .u32 (Z x))=bn xs from rfl] at ap
   have lu:Kept h ⟨au s.h.cells q (some (bn xs)),s.h.shut,s.h.next+6,s.h.aV⟩:=AB K n1 _ _ _ (by omega)
   obtain⟨v,h',ao,own⟩:=Fk Y ⟨au s.h.cells q (some (bn xs)),s.h.shut,s.h.next+6,s.h.aV⟩ (fun j=>by show s.h.shut j=false;rw[K.shut];exact cZ j) (q:=q) (o:=xs) ⟨by simp only[au,if_true],R.cc,by show q<s.h.next+6;have:=R.d_;omega⟩ oj (by omega) (by omega)
   rw[lP,jm] at*
   have K:=bs f5 f7;clear f5 f7
   refine bO [4,5,7] fun F k=>?_;clear K
   obtain⟨f4,f5,f7⟩:=k
   have H:=bs ap ao
   have K:=bA f4 f5 f7;clear f4 f5 f7
   refine cu [4,5,7] fun F k=>?_;clear K H
   obtain⟨f4,f5,f7⟩:=k
   try refine b3 ?_
   simp[iM,f4]
   exact Own.trans lu own
end
end
section
set_option maxHeartbeats 8000000
open Go Go.Eng Go.RowKit
theorem ji {α:Type} (f:Nat->α) (k:Nat) (a b:α):au (au f k a) k b=au f k b:=by funext i;simp only[au];split<;>rfl
abbrev dP (p:Int × Bool):I:= .agg [.bool (a7 p.1),bW (aa p.1.natAbs) p.2]
def c3 (o:List (Int × Bool)):List I:=o.map dP
abbrev zs (o:List (Int × Bool)):List Int:=o.map Prod.fst
theorem qD (o:List (Int × Bool)):(c3 o).length=o.length:=by simp[c3]
theorem Nn {o:List (Int × Bool)} {i:Nat} (h:i<o.length):(c3 o)[i]? =some (dP o[i]):=by simp[c3,h]
theorem vr (o:List (Int × Bool)) (i:Nat) (p:Int × Bool):(c3 o).set i (dP p)=c3 (o.set i p):=by simp[c3,List.map_set]
theorem YA (o:List (Int × Bool)):(c3 o).all (fun e=>e.cells.length == 2)=true:=by simp[c3,I.cells]
theorem xP (o:List (Int × Bool)):(c3 o).all I.dQ=true:=by simp[c3,I.dQ,I.cells,I.dK]
theorem vt {o:List (Int × Bool)} (h:0<o.length):sizedB 2 (some (c3 o))=true:=by
 simp only[sizedB,YA,Bool.and_true,decide_eq_true_eq,qD];exact h
theorem AD (o:List (Int × Bool)):k2 (c3 o)=(zs o).map fun z=>aj z:=by
 rw[qm,c3,List.map_map,List.map_map]
 refine List.map_congr_left fun p _=>?_
 exact LB p.1 p.2
theorem vu (l:List Int):(l.map fun z=>aj z)=c3 (l.map fun z=>(z,false)):=by simp[c3]
theorem No (l:List Int):zs (l.map fun z=>(z,false))=l:=by rw[zs,List.map_map];exact List.map_id l
theorem Fl (o:List (Int × Bool)) (i:Nat) (p:Int × Bool):zs (o.set i p)=(zs o).set i p.1:=by simp[zs,List.map_set]
theorem vv (o:List (Int × Bool)):(zs o).length=o.length:=by simp
structure jN (h:ah) (q:Nat) (o:List (Int × Bool)):Prop where
 cells:h.cells q=some (c3 o)
 cc:h.shut q=false
 d_:q<h.next
theorem jN.bump {h:ah} {q:Nat} {o:List (Int × Bool)} (V:jN h q o) (n:Nat) (p:Nat->Option fX) (ai:h.next<=n):jN ⟨h.cells,h.shut,n,p⟩ q o:=⟨V.cells,V.cc,Nat.lt_of_lt_of_le V.d_ ai⟩
theorem jN.kept {h h':ah} {q:Nat} {o:List (Int × Bool)} (V:jN h q o) (k:Kept h h'):jN h' q o:=⟨by rw[k.cells q V.d_];exact V.cells,by rw[k.shut];exact V.cc,Nat.lt_of_lt_of_le V.d_ k.next⟩
theorem jN.put {h:ah} {q:Nat} {o:List (Int × Bool)} (V:jN h q o) (o':List (Int × Bool)) (n:Nat) (p:Nat->Option fX) (ai:h.next<=n):jN ⟨au h.cells q (some (c3 o')),h.shut,n,p⟩ q o':=
 ⟨by simp only[au,if_true],V.cc,Nat.lt_of_lt_of_le V.d_ ai⟩
theorem jN.off {h:ah} {p q:Nat} {o:List (Int × Bool)} (R:jN h p o) (bP:p≠q) (v:Option (List I)) (m:Nat) (jW:Nat->Option fX) (hm:h.next<=m):jN ⟨au h.cells q v,h.shut,m,jW⟩ p o:=
 ⟨by show au h.cells q v p=_;simp only[au,if_neg bP];exact R.cells,R.cc,Nat.lt_of_lt_of_le R.d_ hm⟩
structure oK (h h':ah) (v:I) (o:List (Int × Bool)):Prop where
 kept:Kept h h'
 val:(o= []/\v= .sl [] true)\/∃r,v= .ref r 0 o.length o.length/\h.next<=r/\jN h' r o
theorem oK.trans {a b c:ah} {v:I} {o:List (Int × Bool)} (k:Kept a b) (x:oK b c v o):oK a c v o:=
 ⟨k.trans x.kept,x.val.imp id fun⟨r,U,h2,aB⟩=>⟨r,U,Nat.le_trans k.next h2,aB⟩⟩
theorem oK.out {h h':ah} {v:I} {o:List (Int × Bool)} (x:oK h h' v o):∃ids e,∀m p,dD ⟨h'.cells,h'.shut,m,p⟩ v=some (.sl (c3 o) e,ids)/\iR ⟨h'.cells,h'.shut,m,p⟩ v=some (.sl (c3 o) e,ids)/\jw ⟨h'.cells,h'.shut,m,p⟩ v=some (.sl (c3 o) e,ids):=by
 rcases x.val with⟨rfl,rfl⟩|⟨r,rfl,_,V⟩
 · exact ⟨[],true,fun m p=>⟨rfl,rfl,rfl⟩⟩
 · have e:∀m p,dD ⟨h'.cells,h'.shut,m,p⟩ (.ref r 0 o.length o.length)=some (.sl (c3 o) false,[r]):=fun m p=>by
    rw[fs]
    simp only[V.cells,Nat.zero_add,qD,Nat.le_refl,xP,and_self,if_true,List.drop_zero]
    rw[List.take_of_length_le (by rw[qD];exact Nat.le_refl _)]
   exact ⟨[r],false,fun m p=>⟨e m p,e m p,e m p⟩⟩
theorem oK.outs {h h':ah} {v:I} {o:List (Int × Bool)} (x:oK h h' v o):∃ids e,(∀m p,dD ⟨h'.cells,h'.shut,m,p⟩ v=some (.sl (c3 o) e,ids)/\iR ⟨h'.cells,h'.shut,m,p⟩ v=some (.sl (c3 o) e,ids)/\jw ⟨h'.cells,h'.shut,m,p⟩ v=some (.sl (c3 o) e,ids))/\dD h' v=some (.sl (c3 o) e,ids)/\iR h' v=some (.sl (c3 o) e,ids)/\jw h' v=some (.sl (c3 o) e,ids):=by
 obtain⟨ids,e,az⟩:=x.out
 exact ⟨ids,e,az,az h'.next h'.aV⟩
def aY (p:List Int):Nat:=p.foldr (fun x m=>max (aG x) m) 0
theorem j5 {L:Nat}:∀ {p:List Int},aY p<=L↔∀x∈p,aG x<=L
 | []=>by simp[aY]
 | x::p=>by
   have a8:=j5 (L:=L) (p:=p)
   simp only[aY,List.foldr_cons,List.mem_cons,forall_eq_or_imp] at*
   rw[Nat.max_le,a8]
theorem xQ (n:Nat):aG (n:Int)=(aa n).length:=by rw[aG,Int.natAbs_natCast]
theorem rK:aG 0=0:=by simp[aG,eE]
theorem dm (p:List Int) (i:Nat):aG (p.getD i 0)<=aY p:=by
 by_cases h:i<p.length
 · exact j5.1 (Nat.le_refl _) _ (by simp[List.getD_eq_getElem?_getD,h])
 · simp[List.getD_eq_getElem?_getD,show p.length<=i by omega,rK]
theorem oL {L:Nat} {p:List Int} (h:∀i,aG (p.getD i 0)<=L):aY p<=L:=j5.2 fun x ae=>by
 obtain⟨i,ab,rfl⟩:=List.getElem_of_mem ae
 have:=h i
 rwa [show p.getD i 0=p[i] by simp[List.getD_eq_getElem?_getD,ab]] at this
end
section
set_option maxHeartbeats 8000000
open Go Go.Eng Go.RowKit
def lb (ys:Nat->Int × Bool) (n i:Nat):List (Int × Bool):=(List.range i).map ys++List.replicate (n - i) (0,true)
theorem Np (ys:Nat->Int × Bool) {n i:Nat} (h:i<=n):(lb ys n i).length=n:=by simp[lb];omega
theorem Nq (ys:Nat->Int × Bool) (n:Nat):lb ys n 0=List.replicate n (0,true):=by simp[lb]
theorem Nr (ys:Nat->Int × Bool) (n:Nat):lb ys n n=(List.range n).map ys:=by simp[lb]
theorem Ns (ys:Nat->Int × Bool) {n i:Nat} (h:i<n):(lb ys n i).set i (ys i)=lb ys n (i+1):=by
 obtain⟨m,hm⟩:∃m,n - i=m+1:=⟨n - i - 1,by omega⟩
 have AE:n -(i+1)=m:=by omega
 rw[lb,lb,hm,AE,List.range_succ,List.map_append,List.replicate_succ,List.append_assoc]
 rw[List.set_append_right _ _ (by simp)]
 simp
theorem Nt:dP (0,true)= .agg [.bool false,.sl [] true]:=by
 simp only[dP,Int.natAbs_zero,eE,List.map_nil];rfl
theorem Fm (n:Nat):List.replicate n (I.agg [.bool false,.sl [] true])=c3 (List.replicate n (0,true)):=by
 rw[c3,List.map_replicate,Nt]
end
section
set_option maxHeartbeats 8000000
open Go Go.Eng Go.RowKit
attribute [local simp] aU.m aU.o aU.n aU.g eZ ej cR cx cW evalOp.eq_1 evalOp.eq_2 evalOp.eq_3 evalOp.eq_4 evalOp.eq_5 evalOp.eq_6 evalOp.eq_7 evalOp.eq_8 evalOp.eq_9 evalOp.eq_10 evalOp.eq_11 evalOp.eq_12 evalOp.eq_13 evalOp.eq_14 evalOp.eq_15 evalOp.eq_16 evalOp.eq_17 evalOp.eq_18 evalOp.eq_19 evalOp.eq_20 evalOp.eq_21 evalOp.eq_22 evalOp.eq_23 evalOp.eq_24 evalOp.eq_25 evalOp.eq_27 evalOp.eq_28 evalOp.eq_29 h7 aT.ev cw au ah.new dM I.cells I.ca I.dK I.dQ ga gd gb gf gh gg hr hs ht fi fj cut partOf bound elems hx hy hz hA hB hC hD hE hF hG hH hI fs hJ hK hL hM hN hO hP hQ hR hS hT hU hV hW hX hY hZ h0 h1 h3 h4 h5 h6 ei ec dE eT gj fA ah.close ah.set fQ h8 h9 h_ hv fB e0 eJ dj eV fM fm eW fN fO fP eQ eR eS eP gk bj fK gl fL gm gn eH gp eI gq gr gu ff hq gv gw gx gy gz gA gB gC gD gE gF gG gH gI gJ gK gL gM gN fl gO gP gQ gR gS gT gU gV gW gX gY gZ g0 g1 g2
attribute [local simp high] hn ho hp g3 g4 g5 g6 g7 g8 g9 g_ g' ha hb hc hd hf hg hh hi hj hk hl
attribute [local simp] aD List.getElem?_cons_zero List.getElem?_cons_succ dp cB e5 Nat.mod_eq_of_lt ij ik il im e_ iq ir iu
section
attribute [local irreducible] ba
attribute [local simp] cY cI cm ji
def AF (aD:ah) (ys:Nat->Int × Bool) (n i:Nat) (s:aL):Prop:=∃q,s.F 5= .ref q 0 n n/\aD.next<=q/\jN s.h q (lb ys n i)/\Kept aD s.h
theorem AG {h g:ah} (cZ:∀j,h.next<=j->h.shut j=false) (K:Kept h g):∀j,g.next<=j->g.shut j=false:=fun j aC=>by
 rw[K.shut];exact cZ j (Nat.le_trans K.next aC)
theorem xR {tab:FuncId->Option (List I->Option I)} (Y:List cy) (h:ah) (cZ:∀j,h.next<=j->h.shut j=false) {st:FuncId} {caps:List I} (eU:tab st=none) {o:List (Int × Bool)} {e:Bool} {n:Nat} (ai:o.length=n) (ay:n<=1000000) (ys:Nat->Int × Bool)
 (B:ah->Prop) (bC:∀g dT,Kept g dT->B g->B dT) (ad:B h)
 (J:∀i p g,o[i]? =some p->B g->(∀j,g.next<=j->g.shut j=false)->∃dT,ey G (aI Tryz.prog) tab Y (.fn st) (aK i::dP p::caps) g=some (dP (ys i),dT)/\Kept g dT):
 ∃v h',ey G (aI Tryz.prog) tab Y (.fn 108) [.sl (c3 o) e,.fn st [] caps] h=some (v,h')/\oK h h' v ((List.range n).map ys):=by
 refine je Kx ?_
 have xS:Z n*32<=140737488355328:=by simp only[Z];omega
 have sP:=fun j (aC:h.next<=j)=>cZ j aC
 unfold i108
 refine aJ [0,1,4,5,6,7,11,12,13,14] fun F K=>?_
 obtain⟨f0,f1,f4,f5,f6,f7,f11,f12,f13,f14⟩:=K
 have H:=bN (@qD) ai xS (@Fm)
 have K:=kb f0 f1 f4 f5 f6 f7 f11 f12 f13 f14;clear f0 f1 f4 f5 f6 f7 f11 f12 f13 f14
 refine cu [0,1,4,5,6,7,11,12,13,14] fun F k=>?_;clear K H
 obtain⟨f0,f1,f4,f5,f6,f7,f11,f12,f13,f14⟩:=k
 refine fR n (fun i s=>AF h ys n i s/\s.F 13=aK i) (AF h ys n n) (fun _=>False) ?_ ?_ ?_ (fun _ _ h=>h.elim)
 · refine⟨⟨_,f5,by omega,?_,(Kept.qn h).new _ _ (by omega) (by omega)⟩,f13⟩
   rw[Nq]
   exact ⟨by simp[au],cZ _ (by omega),by simp⟩
 · rintro i s ab ag ⟨⟨q,dy,aM,V,K⟩,xJ⟩
   replace f1:=(ag 1 rfl).trans f1;replace f11:=(ag 11 rfl).trans f11;replace f12:=(ag 12 rfl).trans f12
   clear f5 f13
   have f5:=dy
   have f13:=xJ
   have K:=bx f1 f5 f11 f12 f13;clear f1 f5 f11 f12 f13
   refine bO [1,5,6,7,11,12,13,14] fun F k=>?_;clear K
   obtain⟨f1,f5,f6,f7,f11,f12,f13,f14⟩:=k
   by_cases aS:i<n
   · obtain⟨p,aF⟩:∃p,o[i]? =some p:=⟨o[i],List.getElem?_eq_getElem (by omega)⟩
     have eA:(c3 o)[i]? =some (dP p):=by simp[c3,aF]
     have AH:=V.d_
     have jm:=Np ys (show i<=n by omega)
     have c6:=vt (o:=lb ys n i) (by omega)
     have go:=Nn (o:=lb ys n i) (i:=i) (by omega)
     have st:=vr (lb ys n i) i (ys i)
     rw[Ns ys aS] at st
     have pz:=K.next
     have lu:Kept h ⟨au s.h.cells (s.h.next+1+3) (some [dP p]),s.h.shut,s.h.next+1+6+8,s.h.aV⟩:=K.new _ _ (by omega) (by omega)
     obtain⟨dT,Fo,tq⟩:=J i p ⟨au s.h.cells (s.h.next+1+3) (some [dP p]),s.h.shut,s.h.next+1+6+8,s.h.aV⟩ aF (bC _ _ lu ad) (AG cZ lu)
     have n5:jN ⟨au s.h.cells (s.h.next+1+3) (some [dP p]),s.h.shut,s.h.next+1+6+8,s.h.aV⟩ q (lb ys n i):=V.off (by omega) _ _ _ (by omega)
     have ld:=n5.kept tq
     have dJ:=ld.cells
     have fh:=ld.cc
     have mE:=lu.trans tq
     have vw:=tq.next
     simp only at vw
     have Fp:s.h.shut (s.h.next+1+3)=false:=by rw[K.shut];exact cZ _ (by omega)
     have H:=kb aS eA eU Fo dJ fh c6 go st Fp
     have K:=er f1 f5 f6 f7 f11 f12 f13 f14;clear f1 f5 f6 f7 f11 f12 f13 f14
     refine cu [1,5,6,7,11,12,13,14] fun F k=>?_;clear K H
     obtain⟨f1,f5,f6,f7,f11,f12,f13,f14⟩:=k
     exact ⟨q,f5,aM,ld.put _ _ _ (by omega),AB mE aM _ _ _ (by omega)⟩
   · obtain rfl:i=n:=by omega
     have H:=trivial
     have K:=er f1 f5 f6 f7 f11 f12 f13 f14;clear f1 f5 f6 f7 f11 f12 f13 f14
     refine cu [1,5,6,7,11,12,13,14] fun F k=>?_;clear K H
     obtain⟨f1,f5,f6,f7,f11,f12,f13,f14⟩:=k
     exact ⟨q,f5,aM,V.bump _ _ (by omega),K.bump _ (by omega)⟩
 · rintro s ag ⟨q,dy,aM,V,K⟩
   clear f5 f13
   have f5:=dy
   have K:=f5;clear f5
   refine bO [4,5] fun F k=>?_;clear K
   obtain⟨f4,f5⟩:=k
   rw[Nr] at V
   have H:=trivial
   have K:=bs f4 f5;clear f4 f5
   refine cu [4,5] fun F k=>?_;clear K H
   obtain⟨f4,f5⟩:=k
   try refine b3 ?_
   simp[iM,f4]
   exact ⟨K.bump _ (by omega),.inr ⟨q,by simp,aM,V.bump _ _ (by omega)⟩⟩
end
section
attribute [local irreducible] ba
attribute [local simp] cY cI cm
theorem YB (u v x y:Nat):((decide (u<x)=decide (v<y))->(u+x)*(v+y)+(if u<x then x - u else u - x)*(if v<y then y - v else v - y)=2*(u*v+x*y)/\(u+x)*(v+y) -(if u<x then x - u else u - x)*(if v<y then y - v else v - y)=2*(u*y+x*v))/\
 ((decide (u<x)≠decide (v<y))->(u+x)*(v+y) -(if u<x then x - u else u - x)*(if v<y then y - v else v - y)=2*(u*v+x*y)/\(u+x)*(v+y)+(if u<x then x - u else u - x)*(if v<y then y - v else v - y)=2*(u*y+x*v)):=by
 by_cases U:u<x<;>by_cases h2:v<y<;>simp only[U,h2,decide_true,decide_false,if_true,if_false,ne_eq,not_true,not_false_eq_true,false_implies,true_implies,and_true,true_and,Bool.true_eq_false,Bool.false_eq_true]
 · obtain⟨d,rfl⟩:∃d,x=u+d:=⟨x - u,by omega⟩
   obtain⟨e,rfl⟩:∃e,y=v+e:=⟨y - v,by omega⟩
   rw[Nat.add_sub_cancel_left,Nat.add_sub_cancel_left]
   exact ⟨by grind,Nat.sub_eq_of_eq_add (by grind)⟩
 · obtain⟨d,rfl⟩:∃d,x=u+d:=⟨x - u,by omega⟩
   obtain⟨e,rfl⟩:∃e,v=y+e:=⟨v - y,by omega⟩
   rw[Nat.add_sub_cancel_left,Nat.add_sub_cancel_left]
   exact ⟨Nat.sub_eq_of_eq_add (by grind),by grind⟩
 · obtain⟨d,rfl⟩:∃d,u=x+d:=⟨u - x,by omega⟩
   obtain⟨e,rfl⟩:∃e,y=v+e:=⟨y - v,by omega⟩
   rw[Nat.add_sub_cancel_left,Nat.add_sub_cancel_left]
   exact ⟨Nat.sub_eq_of_eq_add (by grind),by grind⟩
 · obtain⟨d,rfl⟩:∃d,u=x+d:=⟨u - x,by omega⟩
   obtain⟨e,rfl⟩:∃e,v=y+e:=⟨v - y,by omega⟩
   rw[Nat.add_sub_cancel_left,Nat.add_sub_cancel_left]
   exact ⟨by grind,Nat.sub_eq_of_eq_add (by grind)⟩
theorem YC (x0 x1 x2 y0 y1 ef:Nat):∃E O bF e8 dn cO b8 bQ cE c1 u:Nat,
 bF=(x0+x2+x1)*(y0+ef+y1)/\e8=mD x0 x1 x2*mD y0 y1 ef/\dn=(x0+(x1*2^1+x2*2^2))*(y0+(y1*2^1+ef*2^2))/\cO=x0*y0/\c1=x2*ef/\
 (decide (x0+x2<x1)=decide (y0+ef<y1)->bF+e8=E/\bF - e8=O)/\(decide (x0+x2<x1)≠decide (y0+ef<y1)->bF - e8=E/\bF+e8=O)/\
 E/2^1 -(cO+c1)=bQ/\dn -(cO+(bQ*2^2+c1*2^4))=u/\(u/2^1 - O/2^1)%3=0/\(u/2^1 - O/2^1)/3=cE/\O/2^1 - cE=b8/\
 (∀x∈ [bF,e8,dn,E,O,cO,b8,bQ,cE,c1,cO+c1,E/2^1,O/2^1,bQ*2^2,c1*2^4,bQ*2^2+c1*2^4,cO+(bQ*2^2+c1*2^4),u,u/2^1,u/2^1 - O/2^1],x<=2*bF+dn)/\
 b8=x0*y1+x1*y0/\bQ=x0*ef+x2*y0+x1*y1/\cE=x1*ef+x2*y1:=by
 obtain⟨U,h2⟩:=YB (x0+x2) (y0+ef) x1 y1
 obtain⟨cO,iK⟩:∃c,c=x0*y0:=⟨_,rfl⟩
 obtain⟨b8,ru⟩:∃c,c=x0*y1+x1*y0:=⟨_,rfl⟩
 obtain⟨bQ,jA⟩:∃c,c=x0*ef+x2*y0+x1*y1:=⟨_,rfl⟩
 obtain⟨cE,vx⟩:∃c,c=x1*ef+x2*y1:=⟨_,rfl⟩
 obtain⟨c1,tr⟩:∃c,c=x2*ef:=⟨_,rfl⟩
 have YD:(x0+x2)*(y0+ef)+x1*y1=cO+bQ+c1:=by rw[iK,jA,tr];grind
 have C7:(x0+x2)*y1+x1*(y0+ef)=b8+cE:=by rw[ru,vx];grind
 have ao:(x0+x2+x1)*(y0+ef+y1)=cO+b8+bQ+cE+c1:=by rw[iK,ru,jA,vx,tr];grind
 have av:(x0+(x1*2^1+x2*2^2))*(y0+(y1*2^1+ef*2^2))=cO+2*b8+4*bQ+8*cE+16*c1:=by rw[iK,ru,jA,vx,tr];grind
 rw[YD,C7,show (if x0+x2<x1 then x1 -(x0+x2) else x0+x2 - x1)=mD x0 x1 x2 from rfl,show (if y0+ef<y1 then y1 -(y0+ef) else y0+ef - y1)=mD y0 y1 ef from rfl,ao] at U h2
 generalize mD x0 x1 x2*mD y0 y1 ef=e8 at*
 have vq:e8<=cO+b8+bQ+cE+c1\/cO+b8+bQ+cE+c1<e8:=by omega
 refine⟨2*(cO+bQ+c1),2*(b8+cE),_,e8,_,cO,b8,bQ,cE,c1,2*(b8+4*cE),ao.symm,rfl,av.symm,iK,tr,U,h2,by omega,by omega,by omega,by omega,by omega,?_,ru,jA,vx⟩
 have vq:e8<=cO+b8+bQ+cE+c1:=by
  by_cases h:decide (x0+x2<x1)=decide (y0+ef<y1)
  · have:=U h;omega
  · have:=h2 h;omega
 intro x ae
 simp only[List.mem_cons,List.not_mem_nil,or_false] at ae
 omega
theorem YE {E O bF e8 dn cO b8 bQ cE c1 u:Nat} (aq:(aa (2*bF+dn)).length<=1000000)
 (vy:∀x∈ [bF,e8,dn,E,O,cO,b8,bQ,cE,c1,cO+c1,E/2^1,O/2^1,bQ*2^2,c1*2^4,bQ*2^2+c1*2^4,cO+(bQ*2^2+c1*2^4),u,u/2^1,u/2^1 - O/2^1],x<=2*bF+dn)
 (h2:E/2^1 -(cO+c1)=bQ) (hu:dn -(cO+(bQ*2^2+c1*2^4))=u) (Fq:(u/2^1 - O/2^1)%3=0) (aB:(u/2^1 - O/2^1)/3=cE) (U:O/2^1 - cE=b8):
 ∃v1 v2 oM v4 qE v6 rL rM rN:Nat,j2 [af bF,af e8]=some (af (bF+e8))/\la [af bF,af e8]=some (af (bF - e8))/\mA [af E,aK 1]=some (af v4)/\mA [af O,aK 1]=some (af oM)/\j2 [af cO,af c1]=some (af rN)/\la [af v4,af rN]=some (af bQ)/\
  lX [af bQ,aK 2]=some (af rL)/\lX [af c1,aK 4]=some (af rM)/\j2 [af rL,af rM]=some (af v6)/\j2 [af cO,af v6]=some (af qE)/\la [af dn,af qE]=some (af u)/\mA [af u,aK 1]=some (af v2)/\la [af v2,af oM]=some (af v1)/\tm [af v1]=some (af cE)/\la [af oM,af cE]=some (af b8):=by
 have sz:∀x,x∈ [bF,e8,dn,E,O,cO,b8,bQ,cE,c1,cO+c1,E/2^1,O/2^1,bQ*2^2,c1*2^4,bQ*2^2+c1*2^4,cO+(bQ*2^2+c1*2^4),u,u/2^1,u/2^1 - O/2^1]->∀n,1000000<=n->(aa x).length<=n:=fun x ae n ai=>Nat.le_trans (ib (vy x ae)) (Nat.le_trans aq ai)
 have cq:∀x y,(∀n,1000000<=n->(aa x).length<=n)->(∀n,1000000<=n->(aa y).length<=n)->j2 [af x,af y]=some (af (x+y)):=fun x y ae aN=>nA (ae _ (by decide)) (aN _ (by decide))
 have le:∀x y,(∀n,1000000<=n->(aa x).length<=n)->(∀n,1000000<=n->(aa y).length<=n)->la [af x,af y]=some (af (x - y)):=fun x y ae aN=>E6 (x,y) ⟨ae _ (by decide),aN _ (by decide)⟩ (by simp)
 have Fs:∀x,(∀n,1000000<=n->(aa x).length<=n)->mA [af x,aK 1]=some (af (x/2^1)):=fun x ae=>MG (x,1) ⟨ae _ (by decide),show 1<=10000000000 by decide⟩ (by simp)
 have sl:∀x k,k<=4->(∀n,1000000<=n->(aa x).length<=n)->lX [af x,aK k]=some (af (x*2^k)):=fun x k ag ae=>td (ae _ (by decide)) (by omega)
 have lI:tm [af (u/2^1 - O/2^1)]=some (af ((u/2^1 - O/2^1)/3)):=XP _ ⟨sz _ (by simp) _ (by decide),Fq⟩ (by simp)
 rw[aB] at lI
 refine⟨u/2^1 - O/2^1,u/2^1,O/2^1,E/2^1,cO+(bQ*2^2+c1*2^4),bQ*2^2+c1*2^4,bQ*2^2,c1*2^4,cO+c1,cq _ _ (sz _ (by simp)) (sz _ (by simp)),le _ _ (sz _ (by simp)) (sz _ (by simp)),Fs _ (sz _ (by simp)),Fs _ (sz _ (by simp)),cq _ _ (sz _ (by simp)) (sz _ (by simp)),?_,sl _ _ (by decide) (sz _ (by simp)),sl _ _ (by decide) (sz _ (by simp)),cq _ _ (sz _ (by simp)) (sz _ (by simp)),cq _ _ (sz _ (by simp)) (sz _ (by simp)),?_,Fs _ (sz _ (by simp)),le _ _ (sz _ (by simp)) (sz _ (by simp)),lI,?_⟩
 · have:=le (E/2^1) (cO+c1) (sz _ (by simp)) (sz _ (by simp));rwa [h2] at this
 · have:=le dn (cO+(bQ*2^2+c1*2^4)) (sz _ (by simp)) (sz _ (by simp));rwa [hu] at this
 · have:=le (O/2^1) cE (sz _ (by simp)) (sz _ (by simp));rwa [U] at this
def nG (k:Nat) (cs:List Nat):Nat->Nat
 | 0=>0
 | i+1=>nG k cs i+aE cs i*2^(32*k*i)
theorem YF (k x0 x1 x2 y0 y1 ef:Nat):nG k [x0*y0,x0*y1+x1*y0,x0*ef+x2*y0+x1*y1,x1*ef+x2*y1,x2*ef] 5=(x0+an k*(x1+an k*x2))*(y0+an k*(y1+an k*ef)):=by
 rw[kP]
 simp only[nG,Eg,zN]
 rw[Nat.mul_zero,Nat.pow_zero,Nat.mul_one (32*k),show 32*k*2=32*k+32*k by omega,show 32*k*3=32*k+32*k+32*k by omega,show 32*k*4=32*k+32*k+32*k+32*k by omega]
 simp only[Nat.pow_add]
 generalize 2^(32*k)=P
 grind
theorem Ft:∀z w:Nat × Nat,(fun z:Nat × Nat=>[af z.1,af z.2]) z=(fun z:Nat × Nat=>[af z.1,af z.2]) w->(fun z:Nat × Nat=>af (z.1*z.2)) z=(fun z:Nat × Nat=>af (z.1*z.2)) w:=fun z w h=>by simp only at h|-;first|(simp only[List.cons.injEq,I.int.injEq,I.bool.injEq,I.sl.injEq,bX,bU,bS,b4,b2,bo,bE,bZ,bj,true_and,and_true] at h;simp[h];done)|(simp only[I.agg.injEq,List.cons.injEq,I.int.injEq,I.bool.injEq,I.sl.injEq,bX,bU,bS,b4,b2,bo,bE,bZ,bj,true_and,and_true] at h;simp[h])
noncomputable def xT:List I->Option I:=a9 (fun z:Nat × Nat=>(aa z.1).length<=500000/\(aa z.2).length<=500000) (fun z:Nat × Nat=>[af z.1,af z.2]) (fun z:Nat × Nat=>af (z.1*z.2))
theorem YG (z:Nat × Nat) (h:(aa z.1).length<=500000/\(aa z.2).length<=500000) {args:List I} (he:args.map I.loose= [af z.1,af z.2]):xT args=some (af (z.1*z.2)):=bk Ft z h he
noncomputable def oN (N:Nat):List I->Option I:=a9 (fun z:Nat × Nat=>((aa z.1).length<=500000/\(aa z.2).length<=500000)/\(max (aa z.1).length (aa z.2).length)<N) (fun z:Nat × Nat=>[af z.1,af z.2]) (fun z:Nat × Nat=>af (z.1*z.2))
theorem xU {N:Nat} (z:Nat × Nat) (h:((aa z.1).length<=500000/\(aa z.2).length<=500000)/\(max (aa z.1).length (aa z.2).length)<N) {args:List I} (he:args.map I.loose= [af z.1,af z.2]):oN N args=some (af (z.1*z.2)):=bk Ft z h he
theorem YH (h:∀N,aH Tryz.prog G 201 (oN N)->aH Tryz.prog G 201 (oN (N+1))):aH Tryz.prog G 201 xT:=J_ Ft (fun z:Nat × Nat=>max (aa z.1).length (aa z.2).length) h
noncomputable def nH (N:Nat):FuncId->Option (List I->Option I):=cf [(201,oN N),(202,tj),(252,rH),(256,vn),(257,la),(258,tm),(174,j2),(172,lX),(173,mA)]
theorem YI {N:Nat} (h:aH Tryz.prog G 201 (oN N)):∀f T,nH N f=some T->aH Tryz.prog G f T:=cg (by simp only[List.forall_mem_cons];exact ⟨h,M0,MY,XY,E7,XQ,va,z',EV,fun _ h=>absurd h (by simp)⟩)
theorem Nu (N:Nat):nH N 201=some (oN N):=rfl
theorem Nv (N:Nat):nH N 202=some tj:=rfl
theorem Nw (N:Nat):nH N 252=some rH:=rfl
theorem Nx (N:Nat):nH N 256=some vn:=rfl
theorem Ny (N:Nat):nH N 257=some la:=rfl
theorem Nz (N:Nat):nH N 258=some tm:=rfl
theorem NA (N:Nat):nH N 174=some j2:=rfl
theorem NB (N:Nat):nH N 172=some lX:=rfl
theorem NC (N:Nat):nH N 173=some mA:=rfl
theorem ND (N:Nat):nH N 255=none:=rfl
attribute [local simp] Nu Nv Nw Nx Ny Nz NA NB NC ND
theorem NF (N:Nat) (Y:List cy) (h:ah) {a k n p q:Nat} (ag:h.cells p=some [aK k]) (ai:h.cells q=some [aK n]) (ts:p<h.next) (n1:q<h.next) (cZ:h.shut h.next=false) (br:(aa a).length<=500000) (lr:2*k<=n) (ko:n<=500000):
 ey G (aI Tryz.prog) (nH N) Y (.fn 255) [af a,.ptr p 0 0,.ptr q 0 0] h=some (.agg [af (a%an k),af (a%an (2*k)/an k),af (a%an n/an (2*k))],⟨au (au h.cells h.next (some [.agg [.sl [] true,.sl [] true,.sl [] true]])) h.next (some [.agg [af (a%an k),af (a%an (2*k)/an k),af (a%an n/an (2*k))]]),h.shut,h.next+16,h.aV⟩):=by
 have b5:=xH (a,0,k) ⟨by simp only;omega,Nat.zero_le _,by simp only;omega⟩ (args:=[af a,aK 0,aK k]) (by simp)
 have bb:=xH (a,k,2*k) ⟨by simp only;omega,by simp only;omega,by simp only;omega⟩ (args:=[af a,aK k,aK (2*k)]) (by simp)
 have bw:=xH (a,2*k,n) ⟨by simp only;omega,by simp only;omega,by simp only;omega⟩ (args:=[af a,aK (2*k),aK n]) (by simp)
 simp only[fE,Nat.div_one] at b5 bb bw
 have b7:IntKind.i64.wrap (Z 2*Z k)=Z (2*k):=pn (by omega)
 generalize a%an k=x0 at*
 generalize a%an (2*k)/an k=x1 at*
 generalize a%an n/an (2*k)=x2 at*
 generalize 2*k=ajF at*
 obtain⟨v,h',e,rfl,rfl⟩:=je (Φ:=aI Tryz.prog) (G:=G) (tab:=nH N) (Y:=Y) (h:=h) (args:=[af a,.ptr p 0 0,.ptr q 0 0]) (R:=fun v h'=>v= .agg [af x0,af x1,af x2]/\h'=⟨au (au h.cells h.next (some [.agg [.sl [] true,.sl [] true,.sl [] true]])) h.next (some [.agg [af x0,af x1,af x2]]),h.shut,h.next+16,h.aV⟩) Lh (by
  unfold i255
  refine aJ [0,1,2,4] fun F K=>?_
  obtain⟨f0,f1,f2,f4⟩:=K
  have H:=er ag ai cZ b5 bb (@bw) b7 (@Nat.add_assoc)
  have K:=bN f0 f1 f2 f4;clear f0 f1 f2 f4
  refine cu [0,1,2,4] fun F k=>?_;clear K H
  obtain⟨f0,f1,f2,f4⟩:=k
  try refine b3 ?_
  simp[iM,f4])
 exact e
theorem NG {k:Nat} (u v w:Nat) (hu:(aa u).length<=k) (al:(aa v).length<=k) (hw:(aa w).length<=k):(aa (u+w+v)).length<=k+2/\(aa (mD u v w)).length<=k+2/\(aa (u+(v*2^1+w*2^2))).length<=k+3:=by
 have ajG:(aa (2^1)).length<=1:=cC.2 (by rw[mZ];decide)
 have ajH:(aa (2^2)).length<=1:=cC.2 (by rw[mZ];decide)
 have a1:=kz u w
 have eX:=kz (u+w) v
 have zh:=kO v (2^1)
 have YJ:=kO w (2^2)
 have YK:=kz (v*2^1) (w*2^2)
 have ajI:=kz u (v*2^1+w*2^2)
 have YL:mD u v w<=u+w+v:=by unfold mD;split<;>omega
 have ajJ:=ib YL
 omega
end
section
attribute [local irreducible] ba
attribute [local simp] cY cI cm Nu Nv Nw Nx Ny Nz NA NB NC ND
def AI (k:Nat) (cs:List Nat) (i:Nat) (s:aL):Prop:=∃e,s.F 29=bW (aa (nG k cs i)) e
theorem YM {k:Nat} {cs:List Nat} (ay:cs.length=5) (ag:k<=200000) (aw:∀x∈cs,(aa x).length<=1000000):∀i,i<5->(∀e,j2 [bW (aa (nG k cs i)) e,af (aE cs i*2^(32*k*i))]=some (af (nG k cs (i+1))))/\lX [af (aE cs i),aK (32*k*i)]=some (af (aE cs i*2^(32*k*i))):=by
 have ad:∀i,i<=5->(aa (nG k cs i)).length<=i*4000000:=by
  intro i
  induction i with
  | zero=>intro _;simp[nG,eE]
  | succ i a8=>
    intro ab
    have U:=a8 (by omega)
    have h2:=aw _ (Eh (l:=cs) (i:=i) (by omega))
    have aB:=kO (aE cs i) (2^(32*k*i))
    have aS:(aa (2^(32*k*i))).length<=k*i+1:=cC.2 (by rw[show 32*k*i=32*(k*i) by rw[Nat.mul_assoc],<-kP,eo];have:=jJ (k*i);omega)
    have cd:=kz (nG k cs i) (aE cs i*2^(32*k*i))
    have ee:k*i<=200000*5:=Nat.mul_le_mul ag (by omega)
    show (aa (nG k cs i+aE cs i*2^(32*k*i))).length<=_
    omega
 intro i ab
 have U:=ad i (by omega)
 have h2:=aw _ (Eh (l:=cs) (i:=i) (by omega))
 have aB:=kO (aE cs i) (2^(32*k*i))
 have aS:(aa (2^(32*k*i))).length<=k*i+1:=cC.2 (by rw[show 32*k*i=32*(k*i) by rw[Nat.mul_assoc],<-kP,eo];have:=jJ (k*i);omega)
 have ee:k*i<=200000*5:=Nat.mul_le_mul ag (by omega)
 have nR:32*k*i=32*(k*i):=Nat.mul_assoc ..
 exact ⟨fun e=>nA (by omega) (by omega),td (by omega) (by omega)⟩
theorem YN:aH Tryz.prog G 201 xT:=by
 refine YH fun N a8=>?_
 refine bf mixed (YI a8) K4 fun z aq=>?_
 obtain⟨a,b⟩:=z
 obtain⟨⟨br,bn⟩,iL⟩:=aq
 simp only at br bn iL|-
 obtain⟨L,bh⟩:∃L,L=(aa a).length:=⟨_,rfl⟩
 obtain⟨M,lC⟩:∃M,M=(aa b).length:=⟨_,rfl⟩
 obtain⟨n,ai⟩:∃n,n=max L M:=⟨_,rfl⟩
 have cS:=u3 L M
 have dA:=u4 L M
 rw[<-ai] at cS
 rw[<-bh] at iL
 rw[<-lC] at iL
 have a6:a<an n:=cC.1 (by omega)
 have bC:b<an n:=cC.1 (by omega)
 by_cases p9:min L M<7
 · have t:=MZ (a,b) ⟨by simp only;omega,by simp only;omega⟩ (args:=[af a,af b]) (by simp)
   simp only at t
   generalize a*b=c at*
   unfold i201
   refine aJ [0,1,4,5,6,7,8,9,10,11,12,13,14,15,16,17,18,19,20,21,22,23,24,25,26,27,28,29,30,31,42,97,131,132,133,134] fun F K=>?_
   obtain⟨f0,f1,f4,f5,f6,f7,f8,f9,f10,f11,f12,f13,f14,f15,f16,f17,f18,f19,f20,f21,f22,f23,f24,f25,f26,f27,f28,f29,f30,f31,f42,f97,f131,f132,f133,f134⟩:=K
   have H:=c9 bh.symm lC.symm cS dA p9 t
   have K:=D9 f0 f1 f4 f5 f6 f7 f8 f9 f10 f11 f12 f13 f14 f15 f16 f17 f18 f19 f20 f21 f22 f23 f24 f25 f26 f27 f28 f29 f30 f31 f42 f97 f131 f132 f133 f134;clear f0 f1 f4 f5 f6 f7 f8 f9 f10 f11 f12 f13 f14 f15 f16 f17 f18 f19 f20 f21 f22 f23 f24 f25 f26 f27 f28 f29 f30 f31 f42 f97 f131 f132 f133 f134
   exact j1 [0,1,4,5,6,7,8,9,10,11,12,13,14,15,16,17,18,19,20,21,22,23,24,25,26,27,28,29,30,31,42,97,131,132,133,134]
 · obtain⟨k,ag⟩:∃k,k=(n+2)/3:=⟨_,rfl⟩
   have lr:k+1<n:=by omega
   have jz:k<=200000:=by omega
   have AJ:∀x,x<an n->x=x%an k+an k*(x%an (2*k)/an k+an k*(x%an n/an (2*k)))/\(aa (x%an k)).length<=k/\(aa (x%an (2*k)/an k)).length<=k/\(aa (x%an n/an (2*k))).length<=k:=fun x ae=>by
    rw[Nat.mod_eq_of_lt ae]
    refine⟨?_,cC.2 (Nat.mod_lt _ (jJ k)),cC.2 ?_,cC.2 ?_⟩
    · rw[show 2*k=k+k by omega,iO,<-Nat.div_div_eq_div_mul,Nat.mod_mul_right_div_self,Nat.mod_add_div,Nat.mod_add_div]
    · rw[show 2*k=k+k by omega,iO,Nat.mod_mul_right_div_self];exact Nat.mod_lt _ (jJ k)
    · rw[Nat.div_lt_iff_lt_mul (jJ _),<-iO]
      exact Nat.lt_of_lt_of_le ae (lU (by omega))
   have AK:=fun(h:ah) p q U h2 aB aS cd=>NF N [] h (a:=a) (k:=k) (n:=n) (p:=p) (q:=q) U h2 aB aS cd (by omega) (by omega) (by omega)
   have AL:=fun(h:ah) p q U h2 aB aS cd=>NF N [] h (a:=b) (k:=k) (n:=n) (p:=p) (q:=q) U h2 aB aS cd (by omega) (by omega) (by omega)
   have main:∃x0 x1 x2 y0 y1 ef a1 am eX b1 Fu en bF e8 dn cO b8 bQ cE c1:Nat,∃xV xW:Bool,a%an k=x0/\a%an (2*k)/an k=x1/\a%an n/an (2*k)=x2/\b%an k=y0/\b%an (2*k)/an k=y1/\b%an n/an (2*k)=ef/\
    vn [.agg [af x0,af x1,af x2]]=some (.bL [af a1,af am,af eX,.bool xV])/\vn [.agg [af y0,af y1,af ef]]=some (.bL [af b1,af Fu,af en,.bool xW])/\
    oN N [af x0,af y0]=some (af cO)/\oN N [af x2,af ef]=some (af c1)/\oN N [af a1,af b1]=some (af bF)/\oN N [af am,af Fu]=some (af e8)/\oN N [af eX,af en]=some (af dn)/\
    (∃E O u v1 v2 oM v4 qE v6 rL rM rN b7 c4:Nat,j2 [af bF,af e8]=some (af b7)/\la [af bF,af e8]=some (af c4)/\((xV=xW/\b7=E/\c4=O)\/(xV≠xW/\c4=E/\b7=O))/\mA [af E,aK 1]=some (af v4)/\mA [af O,aK 1]=some (af oM)/\j2 [af cO,af c1]=some (af rN)/\la [af v4,af rN]=some (af bQ)/\
      lX [af bQ,aK 2]=some (af rL)/\lX [af c1,aK 4]=some (af rM)/\j2 [af rL,af rM]=some (af v6)/\j2 [af cO,af v6]=some (af qE)/\la [af dn,af qE]=some (af u)/\mA [af u,aK 1]=some (af v2)/\la [af v2,af oM]=some (af v1)/\tm [af v1]=some (af cE)/\la [af oM,af cE]=some (af b8))/\
    nG k [cO,b8,bQ,cE,c1] 5=a*b/\∀x∈ [cO,b8,bQ,cE,c1],(aa x).length<=1000000:=by
    obtain⟨YO,YP,YQ,YR⟩:=AJ a a6
    obtain⟨pF,YS,YT,YU⟩:=AJ b bC
    clear AJ AK AL cS dA bh lC
    generalize a%an k=x0 at*
    generalize a%an (2*k)/an k=x1 at*
    generalize a%an n/an (2*k)=x2 at*
    generalize b%an k=y0 at*
    generalize b%an (2*k)/an k=y1 at*
    generalize b%an n/an (2*k)=ef at*
    have fin:=YF k x0 x1 x2 y0 y1 ef
    rw[<-YO,<-pF] at fin
    obtain⟨E,O,bF,e8,dn,cO,b8,bQ,cE,c1,u,s_,vq,mw,iK,tr,aw,a3,h2,hu,Fq,aB,U,vy,bp,cb,c7⟩:=YC x0 x1 x2 y0 y1 ef
    obtain⟨M1,ajK,ajL⟩:=NG x0 x1 x2 YP YQ YR
    obtain⟨M3,ajM,ajN⟩:=NG y0 y1 ef YS YT YU
    have b1:=kO (x0+x2+x1) (y0+ef+y1)
    have kX:=kO (x0+(x1*2^1+x2*2^2)) (y0+(y1*2^1+ef*2^2))
    rw[<-s_] at b1
    rw[<-mw] at kX
    have two:(aa 2).length<=1:=cC.2 (by rw[mZ];decide)
    have bM:=kO 2 bF
    have cn:=kz (2*bF) dn
    have aq:(aa (2*bF+dn)).length<=1000000:=by omega
    rw[<-iK,<-bp,<-cb,<-c7,<-tr] at fin
    obtain⟨v1,v2,oM,v4,qE,v6,rL,rM,rN,da,db,fI⟩:=YE aq vy h2 hu Fq aB U
    refine⟨x0,x1,x2,y0,y1,ef,_,_,_,_,_,_,bF,e8,dn,cO,b8,bQ,cE,c1,_,_,rfl,rfl,rfl,rfl,rfl,rfl,
     M7 (x0,x1,x2) ⟨by show (aa x0).length<=_;omega,by show (aa x1).length<=_;omega,by show (aa x2).length<=_;omega⟩ (by simp),M7 (y0,y1,ef) ⟨by show (aa y0).length<=_;omega,by show (aa y1).length<=_;omega,by show (aa ef).length<=_;omega⟩ (by simp),?_,?_,?_,?_,?_,⟨E,O,u,v1,v2,oM,v4,qE,v6,rL,rM,rN,_,_,da,db,?_,fI⟩,fin,fun x ae=>?_⟩
    · rw[iK];exact xU (x0,y0) ⟨⟨by simp only;omega,by simp only;omega⟩,by simp only;omega⟩ (by simp)
    · rw[tr];exact xU (x2,ef) ⟨⟨by simp only;omega,by simp only;omega⟩,by simp only;omega⟩ (by simp)
    · rw[s_];exact xU (x0+x2+x1,y0+ef+y1) ⟨⟨by simp only;omega,by simp only;omega⟩,by simp only;omega⟩ (by simp)
    · rw[vq];exact xU (mD x0 x1 x2,mD y0 y1 ef) ⟨⟨by simp only;omega,by simp only;omega⟩,by simp only;omega⟩ (by simp)
    · rw[mw];exact xU (x0+(x1*2^1+x2*2^2),y0+(y1*2^1+ef*2^2)) ⟨⟨by simp only;omega,by simp only;omega⟩,by simp only;omega⟩ (by simp)
    · by_cases h:decide (x0+x2<x1)=decide (y0+ef<y1)
      · exact .inl ⟨h,aw h⟩
      · exact .inr ⟨h,a3 h⟩
    · have Fv:x<=2*bF+dn:=vy x (by simp only[List.mem_cons,List.not_mem_nil,or_false] at ae|-;rcases ae with rfl|rfl|rfl|rfl|rfl<;>simp)
      exact Nat.le_trans (ib Fv) aq
   obtain⟨x0,x1,x2,y0,y1,ef,a1,am,eX,b1,Fu,en,bF,e8,dn,cO,b8,bQ,cE,c1,xV,xW,bK,ao,av,aW,bR,fe,NH,NI,t0,t4,t1,t2,t3,⟨E,O,u,v1,v2,oM,v4,qE,v6,rL,rM,rN,b7,c4,s1,s2,YV,jg,mC,kS,oI,oG,oJ,NJ,NK,z8,xv,NL,NM,NN⟩,fin,c6⟩:=main
   have lB:=YM (k:=k) (cs:=[cO,b8,bQ,cE,c1]) rfl jz c6
   rw[bK,ao,av] at AK
   rw[aW,bR,fe] at AL
   clear bK ao av aW bR fe AJ a6 bC c6
   have iT:(n+2)/3=k:=ag.symm
   have rO:∀i,i<5->IntKind.i64.wrap (Z 32*Z k)=Z (32*k)/\IntKind.i64.wrap (Z (32*k)*Z i)=Z (32*k*i):=fun i ab=>⟨pn (by omega),pn (by have:32*k*i<=32*200000*5:=Nat.mul_le_mul (Nat.mul_le_mul_left 32 jz) (by omega);omega)⟩
   have Fw:=AK ⟨au (au (au (au (fun _=>none) 6 (some [aK 0])) 6 (some [aK n])) 17 (some [aK 0])) 17 (some [aK k]),fun _=>false,31,fun _=>none⟩ 17 6 (by simp[au]) (by simp[au]) (by show 17<31;decide) (by show 6<31;decide) rfl
   have Fx:=AL ⟨au (au (au (au (au (au (fun _=>none) 6 (some [aK 0])) 6 (some [aK n])) 17 (some [aK 0])) 17 (some [aK k])) 31 (some [.agg [.sl [] true,.sl [] true,.sl [] true]])) 31 (some [.agg [af x0,af x1,af x2]]),fun _=>false,47,fun _=>none⟩ 17 6 (by simp[au]) (by simp[au]) (by show 17<47;decide) (by show 6<47;decide) rfl
   dsimp only at Fw Fx
   clear AK AL
   rw[<-fin]
   unfold i201
   rcases YV with⟨U,h2,aB⟩|⟨U,h2,aB⟩
   · subst U h2 aB
     refine aJ [0,1,4,5,6,7,8,9,10,11,12,13,14,15,16,17,18,19,20,21,22,23,24,25,26,27,28,29,30,31,42,97,131,132,133,134] fun F K=>?_
     obtain⟨f0,f1,f4,f5,f6,f7,f8,f9,f10,f11,f12,f13,f14,f15,f16,f17,f18,f19,f20,f21,f22,f23,f24,f25,f26,f27,f28,f29,f30,f31,f42,f97,f131,f132,f133,f134⟩:=K
     have H:=Up bh.symm lC.symm cS dA p9 iT Fw Fx NH NI t0 t4 t1 t2 t3 s1 s2 jg mC kS oI oG oJ NJ NK z8 xv NL NM NN (@E') (@Fa) (@Fb)
     have K:=D9 f0 f1 f4 f5 f6 f7 f8 f9 f10 f11 f12 f13 f14 f15 f16 f17 f18 f19 f20 f21 f22 f23 f24 f25 f26 f27 f28 f29 f30 f31 f42 f97 f131 f132 f133 f134;clear f0 f1 f4 f5 f6 f7 f8 f9 f10 f11 f12 f13 f14 f15 f16 f17 f18 f19 f20 f21 f22 f23 f24 f25 f26 f27 f28 f29 f30 f31 f42 f97 f131 f132 f133 f134
     refine cu [0,1,4,5,6,7,8,9,10,11,12,13,14,15,16,17,18,19,20,21,22,23,24,25,26,27,28,29,30,31,42,97,131,132,133,134] fun F k=>?_;clear K H
     obtain⟨f0,f1,f4,f5,f6,f7,f8,f9,f10,f11,f12,f13,f14,f15,f16,f17,f18,f19,f20,f21,f22,f23,f24,f25,f26,f27,f28,f29,f30,f31,f42,f97,f131,f132,f133,f134⟩:=k
     generalize Fy: [af cO,af b8,af bQ,af cE,af c1]=Fz at*
     have w0:∀i,i<5->Fz[i]? =some (af (aE [cO,b8,bQ,cE,c1] i)):=fun i ab=>by
      rw[<-Fy]
      rcases show i=0\/i=1\/i=2\/i=3\/i=4 by omega with rfl|rfl|rfl|rfl|rfl<;>rfl
     generalize qa: [cO,b8,bQ,cE,c1]=cs at*
     refine fR 5 (fun i s=>AI k cs i s/\s.F 133=aK i/\s.h.cells 17=some [aK k]) (AI k cs 5) (fun _=>False) ?_ ?_ ?_ (fun _ _ h=>h.elim)
     · exact ⟨⟨true,by rw[nG,eE];exact f29⟩,f133,by simp[au]⟩
     · rintro i s ab tt ⟨⟨e,tu⟩,FA,FB⟩
       have ag:=tt
       replace f6:=(ag 6 rfl).trans f6;replace f131:=(ag 131 rfl).trans f131;replace f132:=(ag 132 rfl).trans f132
       clear f29 f133 tt
       have f29:=tu
       have f133:=FA
       have K:=bx f6 f29 f131 f132 f133;clear f6 f29 f131 f132 f133
       refine bO [6,29,30,31,131,132,133,134] fun F k=>?_;clear K
       obtain⟨f6,f29,f30,f31,f131,f132,f133,f134⟩:=k
       by_cases cd:i<5
       · have tv:(Z i<(5:Int))=True:=eq_true (by simp only[Z];omega)
         have ge:=w0 i cd
         obtain⟨bJ,dG⟩:=lB i cd
         have bJ:=bJ e
         obtain⟨l2,mF⟩:=rO i cd
         have FC:IntKind.i64.wrap (Z i+Z 1)=Z (i+1):=dp (by omega)
         generalize aE cs i=ci at*
         generalize 32*k*i=FD at*
         generalize ci*2^FD=YW at*
         have H:=ia tv ge bJ dG l2 mF FB cd FC
         have K:=er f6 f29 f30 f31 f131 f132 f133 f134;clear f6 f29 f30 f31 f131 f132 f133 f134
         refine cu [6,29,30,31,131,132,133,134] fun F k=>?_;clear K H
         obtain⟨f6,f29,f30,f31,f131,f132,f133,f134⟩:=k
         exact ⟨false,f29⟩
       · have tv:(Z i<(5:Int))=False:=eq_false (by simp only[Z];omega)
         obtain rfl:i=5:=by omega
         have H:=tv
         have K:=er f6 f29 f30 f31 f131 f132 f133 f134;clear f6 f29 f30 f31 f131 f132 f133 f134
         refine cu [6,29,30,31,131,132,133,134] fun F k=>?_;clear K H
         obtain⟨f6,f29,f30,f31,f131,f132,f133,f134⟩:=k
         exact ⟨e,f29⟩
     · rintro s tt ⟨e,tu⟩
       clear f29 f133
       have f29:=tu
       have K:=f29;clear f29
       refine bO [4,29] fun F k=>?_;clear K
       obtain⟨f4,f29⟩:=k
       have H:=trivial
       have K:=bs f4 f29;clear f4 f29
       exact j1 [4,29]
   · subst h2 aB
     have ad:(xV == xW)=false:=by simpa using U
     refine aJ [0,1,4,5,6,7,8,9,10,11,12,13,14,15,16,17,18,19,20,21,22,23,24,25,26,27,28,29,30,31,42,97,131,132,133,134] fun F K=>?_
     obtain⟨f0,f1,f4,f5,f6,f7,f8,f9,f10,f11,f12,f13,f14,f15,f16,f17,f18,f19,f20,f21,f22,f23,f24,f25,f26,f27,f28,f29,f30,f31,f42,f97,f131,f132,f133,f134⟩:=K
     have H:=Uq bh.symm lC.symm cS dA p9 ad iT Fw Fx NH NI t0 t4 t1 t2 t3 s1 s2 jg mC kS oI oG oJ NJ NK z8 xv NL NM NN (@E') (@Fa) (@Fb)
     have K:=D9 f0 f1 f4 f5 f6 f7 f8 f9 f10 f11 f12 f13 f14 f15 f16 f17 f18 f19 f20 f21 f22 f23 f24 f25 f26 f27 f28 f29 f30 f31 f42 f97 f131 f132 f133 f134;clear f0 f1 f4 f5 f6 f7 f8 f9 f10 f11 f12 f13 f14 f15 f16 f17 f18 f19 f20 f21 f22 f23 f24 f25 f26 f27 f28 f29 f30 f31 f42 f97 f131 f132 f133 f134
     refine cu [0,1,4,5,6,7,8,9,10,11,12,13,14,15,16,17,18,19,20,21,22,23,24,25,26,27,28,29,30,31,42,97,131,132,133,134] fun F k=>?_;clear K H
     obtain⟨f0,f1,f4,f5,f6,f7,f8,f9,f10,f11,f12,f13,f14,f15,f16,f17,f18,f19,f20,f21,f22,f23,f24,f25,f26,f27,f28,f29,f30,f31,f42,f97,f131,f132,f133,f134⟩:=k
     generalize Fy: [af cO,af b8,af bQ,af cE,af c1]=Fz at*
     have w0:∀i,i<5->Fz[i]? =some (af (aE [cO,b8,bQ,cE,c1] i)):=fun i ab=>by
      rw[<-Fy]
      rcases show i=0\/i=1\/i=2\/i=3\/i=4 by omega with rfl|rfl|rfl|rfl|rfl<;>rfl
     generalize qa: [cO,b8,bQ,cE,c1]=cs at*
     refine fR 5 (fun i s=>AI k cs i s/\s.F 133=aK i/\s.h.cells 17=some [aK k]) (AI k cs 5) (fun _=>False) ?_ ?_ ?_ (fun _ _ h=>h.elim)
     · exact ⟨⟨true,by rw[nG,eE];exact f29⟩,f133,by simp[au]⟩
     · rintro i s ab tt ⟨⟨e,tu⟩,FA,FB⟩
       have ag:=tt
       replace f6:=(ag 6 rfl).trans f6;replace f131:=(ag 131 rfl).trans f131;replace f132:=(ag 132 rfl).trans f132
       clear f29 f133 tt
       have f29:=tu
       have f133:=FA
       have K:=bx f6 f29 f131 f132 f133;clear f6 f29 f131 f132 f133
       refine bO [6,29,30,31,131,132,133,134] fun F k=>?_;clear K
       obtain⟨f6,f29,f30,f31,f131,f132,f133,f134⟩:=k
       by_cases cd:i<5
       · have tv:(Z i<(5:Int))=True:=eq_true (by simp only[Z];omega)
         have ge:=w0 i cd
         obtain⟨bJ,dG⟩:=lB i cd
         have bJ:=bJ e
         obtain⟨l2,mF⟩:=rO i cd
         have FC:IntKind.i64.wrap (Z i+Z 1)=Z (i+1):=dp (by omega)
         generalize aE cs i=ci at*
         generalize 32*k*i=FD at*
         generalize ci*2^FD=YW at*
         have H:=ia tv ge bJ dG l2 mF FB cd FC
         have K:=er f6 f29 f30 f31 f131 f132 f133 f134;clear f6 f29 f30 f31 f131 f132 f133 f134
         refine cu [6,29,30,31,131,132,133,134] fun F k=>?_;clear K H
         obtain⟨f6,f29,f30,f31,f131,f132,f133,f134⟩:=k
         exact ⟨false,f29⟩
       · have tv:(Z i<(5:Int))=False:=eq_false (by simp only[Z];omega)
         obtain rfl:i=5:=by omega
         have H:=tv
         have K:=er f6 f29 f30 f31 f131 f132 f133 f134;clear f6 f29 f30 f31 f131 f132 f133 f134
         refine cu [6,29,30,31,131,132,133,134] fun F k=>?_;clear K H
         obtain⟨f6,f29,f30,f31,f131,f132,f133,f134⟩:=k
         exact ⟨e,f29⟩
     · rintro s tt ⟨e,tu⟩
       clear f29 f133
       have f29:=tu
       have K:=f29;clear f29
       refine bO [4,29] fun F k=>?_;clear K
       obtain⟨f4,f29⟩:=k
       have H:=trivial
       have K:=bs f4 f29;clear f4 f29
       exact j1 [4,29]
end
section
attribute [local irreducible] ba
attribute [local simp] cY cI cm
noncomputable def xX:FuncId->Option (List I->Option I):=cf [(203,vl),(202,tj),(201,xT)]
theorem YX:∀f T,xX f=some T->aH Tryz.prog G f T:=cg (by simp only[List.forall_mem_cons];exact ⟨MW,M0,YN,fun _ h=>absurd h (by simp)⟩)
theorem YY:xX 203=some vl:=rfl
theorem YZ:xX 202=some tj:=rfl
theorem Y0:xX 201=some xT:=rfl
theorem Y1:xX 200=none:=rfl
attribute [local simp] YY YZ Y0 Y1
noncomputable def vz:List I->Option I:=a9 (fun z:Nat × Nat=>(aa z.1).length<=500000/\(aa z.2).length<=500000/\min (aa z.1).length (aa z.2).length<48) (fun z=>[af z.1,af z.2]) (fun z=>af (z.1*z.2))
theorem AM (z:Nat × Nat) (h:(aa z.1).length<=500000/\(aa z.2).length<=500000/\min (aa z.1).length (aa z.2).length<48) {args:List I} (he:args.map I.loose= [af z.1,af z.2]):vz args=some (af (z.1*z.2)):=bk (fun z w h=>by simp only[List.cons.injEq,I.int.injEq,I.bool.injEq,I.sl.injEq,bX,bU,bS,b4,b2,bo,bE,bZ,bj,true_and,and_true] at h;simp[h]) z h he
theorem NO:aH Tryz.prog G 137 vz:=by
 refine bf mixed YX KI fun z aq=>?_
 obtain⟨a,b⟩:=z
 obtain⟨br,bn,o8⟩:=aq
 simp only at br bn o8|-
 have t1:=MV (a,b) ⟨by simp only;omega,by simp only;omega⟩ (args:=[af a,af b]) (by simp)
 have t2:=MZ (a,b) ⟨by simp only;omega,by simp only;omega⟩ (args:=[af a,af b]) (by simp)
 have t3:=YG (a,b) ⟨br,bn⟩ (args:=[af a,af b]) (by simp)
 simp only at t1 t2 t3
 have m:=u4 (aa a).length (aa b).length
 generalize min (aa a).length (aa b).length=k at*
 generalize a*b=c at*
 obtain⟨W,lq⟩:∃W:List I,W= [.agg [.int .i64 (Z 48),.fn 200 [] []],.agg [.int .i64 (Z 14),.fn 201 [] []],.agg [.int .i64 (Z 8),.fn 202 [] []]]:=⟨_,rfl⟩
 have qu:W[0]? =some (.agg [.int .i64 (Z 48),.fn 200 [] []]):=by rw[lq];rfl
 have bM:W[1]? =some (.agg [.int .i64 (Z 14),.fn 201 [] []]):=by rw[lq];rfl
 have cn:W[2]? =some (.agg [.int .i64 (Z 8),.fn 202 [] []]):=by rw[lq];rfl
 unfold i137
 refine aJ [0,1,4,6,10,11,12,13,23] fun F K=>?_
 obtain⟨f0,f1,f4,f6,f10,f11,f12,f13,f23⟩:=K
 have H:=m
 have K:=ia f0 f1 f4 f6 f10 f11 f12 f13 f23;clear f0 f1 f4 f6 f10 f11 f12 f13 f23
 refine bB [0,1,4,6,10,11,12,13,23] fun F k=>?_;clear K H
 obtain⟨f0,f1,f4,f6,f10,f11,f12,f13,f23⟩:=k
 have NP:F 10= .sl W true:=by rw[f10,lq]
 have NQ:F 11=aK 3:=f11
 clear f10 f11
 have f10:=NP
 have f11:=NQ
 clear NP NQ lq
 refine fR 3 (fun i s=>s.F 12=aK i/\(∀j,s.h.shut j=false)/\(0<i->k<48)/\(1<i->k<14)/\(2<i->k<8)) (fun s=>True) (fun s=>s.F 4=af c) ?_ ?_ ?_ ?_
 · exact ⟨f12,fun _=>rfl,by omega,by omega,by omega⟩
 · rintro i s ab ag ⟨l1,cZ,U,h2,aB⟩
   replace f0:=(ag 0 rfl).trans f0;replace f1:=(ag 1 rfl).trans f1;replace f10:=(ag 10 rfl).trans f10;replace f11:=(ag 11 rfl).trans f11
   clear f12
   have f12:=l1
   have K:=bx f0 f1 f10 f11 f12;clear f0 f1 f10 f11 f12
   refine bO [0,1,4,6,10,11,12,13,23] fun F k=>?_;clear K
   obtain⟨f0,f1,f4,f6,f10,f11,f12,f13,f23⟩:=k
   rcases show i=0\/i=1\/i=2\/i=3 by omega with rfl|rfl|rfl|rfl
   · skip
     have H:=bN cZ qu m o8
     have K:=ia f0 f1 f4 f6 f10 f11 f12 f13 f23;clear f0 f1 f4 f6 f10 f11 f12 f13 f23
     exact a4 [0,1,4,6,10,11,12,13,23]
   · by_cases rJ:k<14
     · skip
       have H:=bN cZ bM m rJ
       have K:=ia f0 f1 f4 f6 f10 f11 f12 f13 f23;clear f0 f1 f4 f6 f10 f11 f12 f13 f23
       exact a4 [0,1,4,6,10,11,12,13,23]
     · skip
       have H:=bx cZ bM m rJ t3
       have K:=ia f0 f1 f4 f6 f10 f11 f12 f13 f23;clear f0 f1 f4 f6 f10 f11 f12 f13 f23
       exact a4 [0,1,4,6,10,11,12,13,23]
   · by_cases NR:k<8
     · skip
       have H:=bN cZ cn m NR
       have K:=ia f0 f1 f4 f6 f10 f11 f12 f13 f23;clear f0 f1 f4 f6 f10 f11 f12 f13 f23
       exact a4 [0,1,4,6,10,11,12,13,23]
     · skip
       have H:=bx cZ cn m NR t2
       have K:=ia f0 f1 f4 f6 f10 f11 f12 f13 f23;clear f0 f1 f4 f6 f10 f11 f12 f13 f23
       exact a4 [0,1,4,6,10,11,12,13,23]
   · skip
     have H:=trivial
     have K:=ia f0 f1 f4 f6 f10 f11 f12 f13 f23;clear f0 f1 f4 f6 f10 f11 f12 f13 f23
     exact a4 [0,1,4,6,10,11,12,13,23]
 · rintro s ag -
   replace f0:=(ag 0 rfl).trans f0;replace f1:=(ag 1 rfl).trans f1
   clear f12
   have K:=bs f0 f1;clear f0 f1
   refine bO [0,1,4] fun F k=>?_;clear K
   obtain⟨f0,f1,f4⟩:=k
   have H:=t1
   have K:=bA f0 f1 f4;clear f0 f1 f4
   exact a4 [0,1,4]
 · rintro s ag aS
   simp[aS]
end
section
attribute [local irreducible] ba
attribute [local simp] cY cI cm
noncomputable def NS:FuncId->Option (List I->Option I):=cf [(137,vz)]
theorem Y2:∀f T,NS f=some T->aH Tryz.prog G f T:=cg (by simp only[List.forall_mem_cons];exact ⟨NO,fun _ h=>absurd h (by simp)⟩)
theorem Y3:NS 137=some vz:=rfl
attribute [local simp] Y3
theorem Y4 {x y:Nat} (ae:x≠0) (aN:y≠0):(aa x).length+(aa y).length<=(aa (x*y)).length+1:=by
 have U:=lG.2 ae
 have h2:=lG.2 aN
 have aB:an ((aa x).length - 1)<=x:=El.1 (by omega)
 have aS:an ((aa y).length - 1)<=y:=El.1 (by omega)
 have cd:=Nat.mul_le_mul aB aS
 rw[<-iO] at cd
 have:=El.2 cd
 omega
theorem NT {x y R:Nat} (h:x*y<=R) (eY:(aa R).length<=94):min (aa x).length (aa y).length<48:=by
 by_cases ae:x=0
 · subst ae;rw[eE];simp
 by_cases aN:y=0
 · subst aN;rw[eE];simp
 have U:=Y4 ae aN
 have h2:=ib h
 omega
def NU (a n m:Nat) (s:aL):Prop:=∃o b e,o*b^m=a^n/\(aa o).length<=94/\(aa b).length<=94/\(a=0->b=0)/\s.F 5=bW (aa o) e/\s.F 0=af b/\s.F 1=aK m
theorem Y5 {o b m R:Nat} (h:o*b^m=R) (hm:m%2=1):(o*b)*(b*b)^(m/2)=R:=by
 have e:m=2*(m/2)+1:=by omega
 rw[<-h]
 generalize m/2=k at*
 subst e
 rw[Nat.pow_succ,Nat.pow_mul,Nat.pow_two,Nat.mul_assoc,Nat.mul_comm b]
theorem Y6 {o b m R:Nat} (h:o*b^m=R) (hm:m%2=0):o*(b*b)^(m/2)=R:=by
 have e:m=2*(m/2):=by omega
 rw[<-h]
 generalize m/2=k at*
 subst e
 rw[Nat.pow_mul,Nat.pow_two]
theorem NV {x y R:Nat} (h:x*y=R) (eY:R≠0):x<=R:=by
 rw[<-h];exact Nat.le_mul_of_pos_right _ (Nat.pos_of_ne_zero fun aD=>eY (by rw[<-h,aD,Nat.mul_zero]))
theorem NW {a n:Nat} (h:a^n=0):a=0:=Decidable.byContradiction fun aA=>absurd h (Nat.ne_of_gt (Nat.pow_pos (Nat.pos_of_ne_zero aA)))
noncomputable def AN:List I->Option I:=a9 (fun z:Nat × Nat=>(aa z.1).length<=94/\z.2<9223372036854775808/\(aa (z.1^z.2)).length<=94) (fun z=>[af z.1,aK z.2]) (fun z=>af (z.1^z.2))
theorem Y7 (z:Nat × Nat) (h:(aa z.1).length<=94/\z.2<9223372036854775808/\(aa (z.1^z.2)).length<=94) {args:List I} (he:args.map I.loose= [af z.1,aK z.2]):AN args=some (af (z.1^z.2)):=bk (fun z w h=>by simp only[List.cons.injEq,I.int.injEq,I.bool.injEq,I.sl.injEq,bX,bU,bS,b4,b2,bo,bE,bZ,bj,true_and,and_true] at h;simp[h]) z h he
theorem Y8:aH Tryz.prog G 152 AN:=by
 refine bf mixed Y2 KP fun z aq=>?_
 obtain⟨a,n⟩:=z
 obtain⟨br,ai,u9⟩:=aq
 simp only at br ai u9|-
 unfold i152
 refine aJ [0,1,4,5,8,13,18] fun F K=>?_
 obtain⟨f0,f1,f4,f5,f8,f13,f18⟩:=K
 have H:=trivial
 have K:=de f0 f1 f4 f5 f8 f13 f18;clear f0 f1 f4 f5 f8 f13 f18
 refine bB [0,1,4,5,8,13,18] fun F k=>?_;clear K H
 obtain⟨f0,f1,f4,f5,f8,f13,f18⟩:=k
 refine mY (fun m s=>m<9223372036854775808/\NU a n m s) (NU a n 0) (fun _=>False) n ?_ ?_ ?_ (fun _ _ h=>h.elim)
 · exact ⟨ai,1,a,true,Nat.one_mul _,by rw[nv];decide,br,fun h=>h,by show F 5=_;rw[f5,nv];rfl,f0,f1⟩
 · rintro m s ag ⟨hm,o,b,e,al,cr,bn,fJ,dy,qu,bM⟩
   clear f0 f1 f5
   have f0:=qu
   have f1:=bM
   have f5:=dy
   have K:=bA f0 f1 f5;clear f0 f1 f5
   refine bO [0,1,5,8,13,18] fun F k=>?_;clear K
   obtain⟨f0,f1,f5,f8,f13,f18⟩:=k
   have pG:(m&&&1)=m%2:=Nat.and_one_is_mod m
   have cZ:min 1 64=1:=by decide
   by_cases oF:m=0
   · subst oF
     have H:=trivial
     have K:=c9 f0 f1 f5 f8 f13 f18;clear f0 f1 f5 f8 f13 f18
     refine bB [0,1,5,8,13,18] fun F k=>?_;clear K H
     obtain⟨f0,f1,f5,f8,f13,f18⟩:=k
     exact ⟨o,b,e,al,cr,bn,fJ,f5,f0,f1⟩
   · have rP:0<m:=by omega
     have wE:∀R,o*b^m=R->R≠0->1<m->b*b<=R:=fun R h eY oO=>by
      have ad:b≠0:=fun aD=>eY (by rw[<-h,aD,Nat.zero_pow (by omega),Nat.mul_zero])
      have U:b^m<=R:=by rw[Nat.mul_comm] at h;exact NV h eY
      have h2:b^2<=b^m:=Nat.pow_le_pow_right (by omega) oO
      rw[Nat.pow_two] at h2
      omega
     have lW:1<m->min (aa b).length (aa b).length<48/\(aa (b*b)).length<=94:=fun oO=>by
      by_cases eY:a^n=0
      · have:=fJ (NW eY)
        subst this
        rw[Nat.zero_mul,eE];simp
      · have:=wE _ al eY oO
        exact ⟨NT this u9,Nat.le_trans (ib this) u9⟩
     by_cases NX:m%2=1
     · have AO:=Y5 al NX
       have FE:min (aa o).length (aa b).length<48/\(aa (o*b)).length<=94:=by
        by_cases eY:a^n=0
        · have:=fJ (NW eY)
          subst this
          rw[Nat.mul_zero,eE];simp
        · have:=NV AO eY
          exact ⟨NT this u9,Nat.le_trans (ib this) u9⟩
       have t1:=AM (o,b) ⟨by simp only;omega,by simp only;omega,FE.1⟩ (args:=[bW (aa o) e,af b]) (by simp)
       simp only at t1
       by_cases oO:1<m
       · have t2:=AM (b,b) ⟨by simp only;omega,by simp only;omega,(lW oO).1⟩ (args:=[af b,af b]) (by simp)
         have da:=(lW oO).2
         simp only at t2
         generalize NY:o*b=FF at*
         generalize FG:b*b=en at*
         have H:=de rP pG NX oO cZ t1 t2
         have K:=c9 f0 f1 f5 f8 f13 f18;clear f0 f1 f5 f8 f13 f18
         refine bB [0,1,5,8,13,18] fun F k=>?_;clear K H
         obtain⟨f0,f1,f5,f8,f13,f18⟩:=k
         exact ⟨m/2,by omega,by omega,FF,en,false,AO,FE.2,da,fun h=>by rw[<-FG,fJ h],f5,f0,rfl⟩
       · have Y9:m=1:=by omega
         subst Y9
         generalize NY:o*b=FF at*
         have H:=bA pG cZ t1
         have K:=c9 f0 f1 f5 f8 f13 f18;clear f0 f1 f5 f8 f13 f18
         refine bB [0,1,5,8,13,18] fun F k=>?_;clear K H
         obtain⟨f0,f1,f5,f8,f13,f18⟩:=k
         exact ⟨FF,b,false,by rw[<-NY,Nat.pow_zero,Nat.mul_one];rw[Nat.pow_one] at al;exact al,FE.2,bn,fJ,f5,f0,rfl⟩
     · have AP:m%2=0:=by omega
       have oO:1<m:=by omega
       have AO:=Y6 al AP
       have t2:=AM (b,b) ⟨by simp only;omega,by simp only;omega,(lW oO).1⟩ (args:=[af b,af b]) (by simp)
       have da:=(lW oO).2
       simp only at t2
       generalize FG:b*b=en at*
       have H:=c9 rP pG AP oO cZ t2
       have K:=c9 f0 f1 f5 f8 f13 f18;clear f0 f1 f5 f8 f13 f18
       refine bB [0,1,5,8,13,18] fun F k=>?_;clear K H
       obtain⟨f0,f1,f5,f8,f13,f18⟩:=k
       exact ⟨m/2,by omega,by omega,o,en,e,AO,cr,da,fun h=>by rw[<-FG,fJ h],f5,f0,rfl⟩
 · rintro s ag ⟨o,b,e,al,cr,bn,fJ,dy,qu,bM⟩
   rw[Nat.pow_zero,Nat.mul_one] at al
   subst al
   clear f0 f1 f5
   have f5:=dy
   have K:=f5;clear f5
   refine bO [4,5] fun F k=>?_;clear K
   obtain⟨f4,f5⟩:=k
   generalize a^n=r at*
   have H:=trivial
   have K:=bs f4 f5;clear f4 f5
   exact a4 [4,5]
end
end
end Go.Proofs.YtemiagcencajeaaGreatDoor
