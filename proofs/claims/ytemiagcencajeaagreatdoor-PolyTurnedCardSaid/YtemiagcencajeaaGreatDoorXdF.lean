/- What the claim needs of the walks, put together by a program (shake.py). -/
import Derived.Test.YtemiagcencajeaaGreatDoorXdE
set_option maxRecDepth 100000
set_option linter.unusedSimpArgs false
set_option linter.unusedVariables false
set_option linter.unusedSectionVars false
namespace Go.Proofs.YtemiagcencajeaaGreatDoor
section
set_option maxHeartbeats 8000000
open Go Go.Eng Go.RowKit
theorem Ya {m o o' P B y r x a1 z:Nat} (hm:o'+P*y=o+P*(z/m)) (aQ:y=0) (h:m*o+P*B*r=P*B*a1) (ar:z=r*B+x):m*o'+P*(z%m)=P*(x+B*a1):=by
 subst aQ
 have e:P*(m*(z/m)+z%m)=P*z:=by rw[Nat.div_add_mod]
 rw[ar] at e|-
 rw[ar] at hm
 generalize (r*B+x)/m=q at*
 generalize (r*B+x)%m=t at*
 grind
end
section
set_option maxHeartbeats 8000000
open Go Go.Eng Go.RowKit
attribute [local simp] aU.m aU.o aU.n aU.g e7 ew cT cB cX evalOp.eq_1 evalOp.eq_2 evalOp.eq_3 evalOp.eq_4 evalOp.eq_5 evalOp.eq_6 evalOp.eq_7 evalOp.eq_8 evalOp.eq_9 evalOp.eq_10 evalOp.eq_11 evalOp.eq_12 evalOp.eq_13 evalOp.eq_14 evalOp.eq_15 evalOp.eq_16 evalOp.eq_17 evalOp.eq_18 evalOp.eq_19 evalOp.eq_20 evalOp.eq_21 evalOp.eq_22 evalOp.eq_23 evalOp.eq_24 evalOp.eq_25 evalOp.eq_27 evalOp.eq_28 evalOp.eq_29 ig aS.ev cA au ah.new dQ I.cells I.cd I.dP I.ea gl gn gm gp gr gq hB hC hD fw fx cut partOf bound elems hF hG hH hI hJ hK hL hM hN hO hP hQ fF hR hS hT hU hV hW hX hY hZ h0 h1 h3 h4 h5 h6 h7 h8 h9 h_ ia ib ic ie eu eh dJ eY gu fM ah.close ah.set gf ih ij ik hE fN e8 eS dt e1 f' ft e2 ga gb gd eV eW eX eU gv bj fZ gw f_ gx gy eQ gz eR gA gB gC fs hA gD gE gF gG gH gI gJ gK gL gM gN gO gP gQ gR gS gT gU gV fz gW gX gY gZ g0 g1 g2 g3 g4 g5 g6 g7 g8 g9 g_
attribute [local simp high] hx hy hz g' ha hb hc hd hf hg hh hi hj hk hl hn ho hp hq hr hs ht hv
attribute [local simp] aG List.getElem?_cons_zero List.getElem?_cons_succ dw cM fe Nat.mod_eq_of_lt iw ix iy iz fk iA iB iC
section
attribute [local irreducible] ba
attribute [local simp] cW cI ct
noncomputable def rO:FuncId->Option (List I->Option I):=cf [(170,kW),(282,AA)]
theorem Yb:∀f T,rO f=some T->aH Tryz.prog G f T:=cg (by simp only[List.forall_mem_cons];exact ⟨qu,X4,fun _ h=>absurd h (by simp)⟩)
theorem Yc:rO 170=some kW:=rfl
theorem Yd:rO 282=some AA:=rfl
theorem Ye:rO 281=none:=rfl
theorem Yf:rO 293=none:=rfl
attribute [local simp] Yc Yd Ye Yf
structure tr (bN cm cz q y a m L i:Nat) (o:List Nat) (r:Nat) (h:ah):Prop where
 ol:o.length=L
 os:Small o
 Fm:∀j,j<i->aD o j=0
 fb:r<m
 eq:m*val o+al i*r=al i*(a/al i)
 cF:h.cells bN=some [bo m]
 kk:h.cells cm=some [.ref q 0 L L]
 oE:h.cells cz=some [bo r]
 l8:h.cells q=some (bp o)
 l9:h.shut q=false
 oP:h.shut cz=false
 jV:h.aV y=some .ready
 ts:y<h.next
theorem tr.bump {bN cm cz q y a m L i:Nat} {o:List Nat} {r:Nat} {h:ah} (aj:tr bN cm cz q y a m L i o r h) (n:Nat) (ak:h.next<=n):tr bN cm cz q y a m L i o r ⟨h.cells,h.shut,n,h.aV⟩:=
 ⟨aj.ol,aj.os,aj.Fm,aj.fb,aj.eq,aj.cF,aj.kk,aj.oE,aj.l8,aj.l9,aj.oP,aj.jV,Nat.lt_of_lt_of_le aj.ts ak⟩
theorem Yg (Y:List cJ) {F:Nat->I} {a m L i:Nat} (f3:F 3= .ptr 0 0 0) (f7:F 7= .ptr 9 0 0) (f8:F 8= .ptr 11 0 0) {h:ah} {o:List Nat} {r:Nat} (hm:m<4294967296) (aj:tr 0 9 11 8 18 a m L (i+1) o r h) (ab:i<L):
 ∃u h',eP G (aI Tryz.prog) rO (⟨18,F,[18,19],(.seq (.region false [⟨(some 9),(.mv (.t 18)),none⟩] []) (.region false [⟨(some 10),(.mv (.t 19)),none⟩] [])),(.block 1 (.region true [⟨(some 21),(.load false 1 (.t 7)),none⟩,⟨(some 22),(.mv (.t 9)),none⟩,⟨(some 23),(.load false 1 (.t 8)),none⟩,⟨(some 24),(.mv (.t 10)),none⟩,⟨(some 25),(.load false 1 (.t 3)),none⟩,⟨(some 26),(.call (.f 282) [(.t 23),(.t 24),(.t 25)]),none⟩,⟨(some 20),(.mv (.t 26)),none⟩,⟨(some 27),(.extract (.t 20) 0),none⟩,⟨(some 28),(.extract (.t 20) 1),none⟩,⟨(some 29),(.iaddrS 1 (.t 21) (.t 22)),none⟩,⟨none,(.store 1 (.t 29) (.t 27)),none⟩,⟨none,(.store 1 (.t 8) (.t 28)),none⟩] [0,0,0,0,0,28,60,124,124,255,767,2047]))⟩::Y) (.lv 18) [aJ i,bo (a/al i%4294967296)] h=some (u,h')/\u= .bool true/\(∃o' jd,tr 0 9 11 8 18 a m L i o' jd h')/\h.next<=h'.next/\∀j,j=14->h'.cells j=h.cells j:=by
 have ae:a/al i%4294967296<4294967296:=Nat.mod_lt _ (by decide)
 obtain⟨x,ji⟩:∃x,x=a/al i%4294967296:=⟨_,rfl⟩
 rw[<-ji] at ae|-
 have t:=X3 (r,x,m) ⟨aj.fb,ae,hm⟩ (args:=[bo r,bo x,bo m]) (by simp)
 simp only at t
 obtain⟨d1,d2⟩:=M9 aj.fb ae hm
 have iI:=aj.ol
 have st:=Ya (y:=aD o i) (nz (two r x/m) (show i<o.length by omega)) (aj.Fm i (by omega)) (by have:=aj.eq;rw[er] at this;exact this) rfl
 rw[ji,<-er,rA,Nat.mod_add_div] at st
 rw[<-ji] at st
 have go:=ko (show i<o.length by omega)
 have sz:=kX (show 0<o.length by omega)
 have set:=pF o i (two r x/m)
 have cF:=aj.cF
 have kk:=aj.kk
 have oE:=aj.oE
 have l8:=aj.l8
 have l9:=aj.l9
 have oP:=aj.oP
 have ts:=aj.ts
 clear ji
 generalize two r x=z at*
 refine D0 (L:=⟨18,F,[18,19],(.seq (.region false [⟨(some 9),(.mv (.t 18)),none⟩] []) (.region false [⟨(some 10),(.mv (.t 19)),none⟩] [])),(.block 1 (.region true [⟨(some 21),(.load false 1 (.t 7)),none⟩,⟨(some 22),(.mv (.t 9)),none⟩,⟨(some 23),(.load false 1 (.t 8)),none⟩,⟨(some 24),(.mv (.t 10)),none⟩,⟨(some 25),(.load false 1 (.t 3)),none⟩,⟨(some 26),(.call (.f 282) [(.t 23),(.t 24),(.t 25)]),none⟩,⟨(some 20),(.mv (.t 26)),none⟩,⟨(some 27),(.extract (.t 20) 0),none⟩,⟨(some 28),(.extract (.t 20) 1),none⟩,⟨(some 29),(.iaddrS 1 (.t 21) (.t 22)),none⟩,⟨none,(.store 1 (.t 29) (.t 27)),none⟩,⟨none,(.store 1 (.t 8) (.t 28)),none⟩] [0,0,0,0,0,28,60,124,124,255,767,2047]))⟩) (Y':=Y) (by simp[om]) rfl ?_
 simp only[nh]
 have eE:au (au F 18 (aJ i)) 19 (bo x) 3= .ptr 0 0 0:=by simp[au,f3]
 have kn:au (au F 18 (aJ i)) 19 (bo x) 7= .ptr 9 0 0:=by simp[au,f7]
 have kc:au (au F 18 (aJ i)) 19 (bo x) 8= .ptr 11 0 0:=by simp[au,f8]
 refine bc (bm n3 ?_)
 simp
 refine bm n3 ?_
 simp[aj.jV,Nat.add_assoc]
 refine jW (bm n3 ?_)
 simp(disch:=omega) [aG,List.getElem?_cons_zero,List.getElem?_cons_succ,dw,cM,fe,Nat.mod_eq_of_lt,iw,ix,iy,iz,fk,iA,iB,iC,f3,f7,f8,cF,kk,oE,l8,l9,oP,t,go,sz,set,ab,Nat.add_assoc,uo,kH,yW,o5,q3]
 refine⟨by decide,o.set i (z/m),z%m,by rw[List.length_set];exact iI,nA aj.os d1,fun j aB=>?_,Nat.mod_lt _ (by have:=aj.fb;omega),st,by simp[au,cF],by simp[au,kk],by simp[au],by simp[au],l9,oP,by simp[au],by show 18<h.next+14;omega⟩
 rw[n6 _ _ (by omega),if_neg (by omega)]
 exact aj.Fm j (by omega)
theorem Yh (Y:List cJ) (h:ah) (l:List Nat) (e:Bool):
 eP G (aI Tryz.prog) rO Y (.fn 281) [b6 l e] h=some (.fn 293 [] [.ptr h.next 0 0],⟨au h.cells h.next (some [b6 l e]),h.shut,h.next+4,h.aV⟩):=by
 obtain⟨v,h',e,rfl,rfl⟩:=jX (Φ:=aI Tryz.prog) (G:=G) (tab:=rO) (Y:=Y) (h:=h) (args:=[b6 l e]) (R:=fun v h'=>v= .fn 293 [] [.ptr h.next 0 0]/\h'=⟨au h.cells h.next (some [b6 l e]),h.shut,h.next+4,h.aV⟩) Lt (by
  unfold i281
  refine aK [0,1,2] fun F K=>?_
  obtain⟨f0,f1,f2⟩:=K
  have H:=(@Nat.add_assoc)
  have K:=b3 f0 f1 f2;clear f0 f1 f2
  refine cV [0,1,2] fun F k=>?_;clear K H
  obtain⟨f0,f1,f2⟩:=k
  try refine b5 ?_
  simp[jG,f2])
 exact e
noncomputable def vt:List I->Option I:=a9 (fun z:Nat × Nat=>(aa z.1).length<=100000000/\z.2<4294967296) (fun z=>[af z.1,bo z.2]) (fun z=>if z.2=0 then .bK [.sl [] false,bo 0,aJ 3] else .bK [af (z.1/z.2),bo (z.1%z.2),aJ 0])
theorem Yi (z:Nat × Nat) (h:(aa z.1).length<=100000000/\z.2<4294967296) {args:List I} (he:args.map I.loose= [af z.1,bo z.2]):vt args=some (if z.2=0 then .bK [.sl [] false,bo 0,aJ 3] else .bK [af (z.1/z.2),bo (z.1%z.2),aJ 0]):=bk (fun z w h=>by simp only[List.cons.injEq,I.int.injEq,I.bool.injEq,I.sl.injEq,bX,bW,bU,b4,bZ,bq,bE,bY,bj,true_and,and_true] at h;simp[h]) z h he
theorem Nf:aH Tryz.prog G 259 vt:=by
 refine bg mixed Yb Lk fun z ar=>?_
 obtain⟨a,m⟩:=z
 obtain⟨bs,hm⟩:=ar
 simp only at bs hm|-
 unfold i259
 by_cases oK:m=0
 · rw[if_pos oK]
   subst oK
   refine aK [0,1,3,4,5,6,7,8,9,10,12,17,18,19] fun F K=>?_
   obtain⟨f0,f1,f3,f4,f5,f6,f7,f8,f9,f10,f12,f17,f18,f19⟩:=K
   have H:=trivial
   have K:=zQ f0 f1 f3 f4 f5 f6 f7 f8 f9 f10 f12 f17 f18 f19;clear f0 f1 f3 f4 f5 f6 f7 f8 f9 f10 f12 f17 f18 f19
   exact kU [0,1,3,4,5,6,7,8,9,10,12,17,18,19]
 · rw[if_neg oK]
   have aC:=dD a
   obtain⟨L,bf⟩:∃L,L=(aa a).length:=⟨_,rfl⟩
   have a5:a<al L:=cE.1 (by omega)
   have aT:Z L*4<=140737488355328:=by simp only[Z];omega
   refine aK [0,1,3,4,5,6,7,8,9,10,12,17,18,19] fun F K=>?_
   obtain⟨f0,f1,f3,f4,f5,f6,f7,f8,f9,f10,f12,f17,f18,f19⟩:=K
   have H:=bx oK aT (@Au) (@Yh) bf.symm
   have K:=zQ f0 f1 f3 f4 f5 f6 f7 f8 f9 f10 f12 f17 f18 f19;clear f0 f1 f3 f4 f5 f6 f7 f8 f9 f10 f12 f17 f18 f19
   refine cV [0,1,3,4,5,6,7,8,9,10,12,17,18,19] fun F k=>?_;clear K H
   obtain⟨f0,f1,f3,f4,f5,f6,f7,f8,f9,f10,f12,f17,f18,f19⟩:=k
   refine jW (DZ f17 Lx ?_)
   have eE:=f3
   have kn:=f7
   have kc:=f8
   clear f0 f1 f3 f4 f5 f6 f7 f8 f9 f10 f12 f17 f18 f19
   unfold i293
   simp
   have ti:IntKind.i64.wrap (Z L - Z 1)=ff L:=kb (by omega)
   refine aK [0,1,3,8,18] fun F K=>?_
   obtain⟨f0,f1,f3,f8,f18⟩:=K
   have H:=bw ti bf.symm
   have K:=bx f0 f1 f3 f8 f18;clear f0 f1 f3 f8 f18
   refine cV [0,1,3,8,18] fun F k=>?_;clear K H
   obtain⟨f0,f1,f3,f8,f18⟩:=k
   refine m3 (fun k s=>k<=L/\(∃o r,tr 0 9 11 8 18 a m L k o r s.h)/\s.h.cells 14=some [af a]/\s.F 3= .int .i64 (ff k)) (fun s=>∃o r,tr 0 9 11 8 18 a m L 0 o r s.h) (fun _=>False) L ?_ ?_ ?_ (fun _ _ h=>h.elim)
   · refine⟨Nat.le_refl _,⟨List.replicate L 0,0,?_⟩,by simp[au],f3⟩
     exact ⟨by simp,qt _,fun j _=>xv _ _,by omega,by simp[s6,Nat.div_eq_of_lt a5],by simp[au],by simp[au],by simp[au],by simp[au],by simp,by simp,by simp[au],by simp⟩
   · rintro k s ag ⟨ajD,⟨o,r,aj⟩,rH,Ng⟩
     replace f0:=(ag 0 rfl).trans f0;replace f1:=(ag 1 rfl).trans f1
     clear f3
     have f3:=Ng
     clear Ng
     have K:=b3 f0 f1 f3;clear f0 f1 f3
     refine bO [0,1,3,8,18] fun F k=>?_;clear K
     obtain⟨f0,f1,f3,f8,f18⟩:=k
     cases k with
     | zero=>
       rw[qq] at f3
       have H:=(@tp)
       have K:=bx f0 f1 f3 f8 f18;clear f0 f1 f3 f8 f18
       refine cV [0,1,3,8,18] fun F k=>?_;clear K H
       obtain⟨f0,f1,f3,f8,f18⟩:=k
       exact ⟨o,r,aj.bump _ (by omega)⟩
     | succ i=>
       rw[oJ] at f3
       have nH:=(ka (show i<(aa a).length by omega)).symm
       rw[iH] at nH
       have lf:=fun n ak=>aj.bump n ak
       have qB:i<L:=by omega
       have Yj:IntKind.i64.wrap (Z i - Z 1)=ff i:=kb (by omega)
       obtain⟨u,h',nX,rfl,vd,sO,rP⟩:=Yg [] eE kn kc hm (lf (s.h.next+10) (by omega)) qB
       have rP:=rP 14 rfl
       simp only at sO rP
       rw[rH] at rP
       have ts:=aj.ts
       have H:=dh rH nH qB Yj nX (@Nat.add_assoc) bf.symm
       have K:=bx f0 f1 f3 f8 f18;clear f0 f1 f3 f8 f18
       refine cV [0,1,3,8,18] fun F k=>?_;clear K H
       obtain⟨f0,f1,f3,f8,f18⟩:=k
       obtain⟨o',jd,vd⟩:=vd
       exact ⟨i,Nat.lt_succ_self i,by omega,⟨o',jd,vd.bump _ (by omega)⟩,rP,by first|rfl|exact f3⟩
   · rintro s ag ⟨o,r,aj⟩
     have kk:=aj.kk
     have oE:=aj.oE
     have l8:=aj.l8
     have iI:=aj.ol
     have ts:=aj.ts
     have Yk:8<s.h.next:=by omega
     have Yl:9<s.h.next:=by omega
     have Ym:11<s.h.next:=by omega
     have e:=aj.eq
     rw[fG,Nat.one_mul,Nat.one_mul,Nat.div_one] at e
     have vu:=aj.fb
     have aq:val o=a/m:=by rw[<-e,Nat.mul_add_div (by omega),Nat.div_eq_of_lt vu,Nat.add_zero]
     have av:r=a%m:=by rw[<-e,Nat.mul_add_mod,Nat.mod_eq_of_lt vu]
     have b':=pA (e:=false) aj.os (show o.length<=1073741824 by omega)
     rw[aq] at b'
     have eC:=Aw (show o.length<=L by omega)
     have nr:=Av o
     have iQ:=qA o
     have hle:L<=(bp o).length:=by omega
     rw[show (o.map fun n=>I.int .u32 (Z n))=bp o from rfl] at b'
     refine⟨trivial,⟨_,rfl⟩,?_⟩
     simp only[aj.jV]
     rw[<-av]
     generalize a/m=ajE at*
     simp
     have f7:=kn
     have f8:=kc
     have K:=bw f7 f8;clear f7 f8
     refine bO [4,5,6,7,8] fun F k=>?_;clear K
     obtain⟨f4,f5,f6,f7,f8⟩:=k
     have H:=kl kk oE l8 b' eC nr hle Yk Yl Ym
     have K:=bx f4 f5 f6 f7 f8;clear f4 f5 f6 f7 f8
     exact kU [4,5,6,7,8]
end
section
attribute [local irreducible] ba
attribute [local simp] cW cI ct
noncomputable def j1:FuncId->Option (List I->Option I):=cf [(171,n8),(259,vt),(260,AB),(261,vr),(173,mE),(241,tc),(245,td)]
theorem Yn:∀f T,j1 f=some T->aH Tryz.prog G f T:=cg (by simp only[List.forall_mem_cons];exact ⟨xz,Nf,X6,X8,EY,Mj,Ml,fun _ h=>absurd h (by simp)⟩)
theorem AD:j1 171=some n8:=rfl
theorem Yo:j1 259=some vt:=rfl
theorem AE:j1 260=some AB:=rfl
theorem AF:j1 261=some vr:=rfl
theorem AG:j1 173=some mE:=rfl
theorem Nh:j1 241=some tc:=rfl
theorem Ni:j1 245=some td:=rfl
theorem AH:j1 170=none:=rfl
theorem Yp:j1 238=none:=rfl
theorem AI:j1 172=none:=rfl
theorem xU:j1 262=none:=rfl
theorem xV:j1 263=none:=rfl
theorem Yq:j1 205=none:=rfl
attribute [local simp] AD Yo AE AF AG Nh Ni AH Yp AI xU xV Yq
structure Own (h h':ah) (v:I) (o:List Nat):Prop where
 kept:Kept h h'
 val:(o= []/\v= .sl [] true)\/∃r,v= .ref r 0 o.length o.length/\h.next<=r/\fC h' r o
theorem Yr (o:List Nat) (n:Nat):List.take n (bp o)=bp (o.take n):=by rw[bp,bp,List.map_take]
theorem Ys (o:List Nat):(bp o).all (fun e=>e.cells.length == 1&&e.cells.all I.cd)=true:=by simp[bp,I.cells,I.cd]
theorem Yt (o:List Nat):(bp o).all (fun e=>e.cells.length == 1)=true:=by simp[bp,I.cells]
theorem Yu {r:Nat} {h:ah} {q n N:Nat} {o:List Nat} (J:h.cells q=some (bp o)) (ak:n<=o.length) (aG:0<n) (az:n<=1000000000):
 kR r 1 4 h (.sl [] true) (.ref q 0 n N)=some (.ref r 0 n n,h.new r (bp (o.take n)),.wr):=by
 have e:elems h (.ref q 0 n N)=some (bp (o.take n)):=by
  simp only[elems,J];rw[if_pos (by rw[qA];omega),List.drop_zero,Yr]
 have hle:(bp (o.take n)).length=n:=by rw[qA,List.length_take];omega
 unfold kR
 rw[e]
 simp only[Option.bind_some]
 rw[if_pos ⟨by decide,by decide,Ys _⟩,if_neg (by omega)]
 simp only[kG,hle,List.length_nil,Nat.zero_add,List.nil_append,Bool.false_eq_true,if_false]
 rw[if_pos (by refine⟨?_,?_,aG,?_⟩<;>first|trivial|omega|rfl)]
theorem Yw (Y:List cJ) (h:ah) (c4:∀j,h.shut j=false) {q n:Nat} {o:List Nat} (V:fC h q o) (ak:n<=o.length) (aG:0<o.length) (az:o.length<=1000000000):
 ∃v h',eP G (aI Tryz.prog) j1 Y (.fn 238) [.ref q 0 n o.length] h=some (v,h')/\Own h h' v (o.take n):=by
 refine jX Ek ?_
 have dH:=V.cells
 have c3:=kX aG
 unfold i238
 by_cases mo:n=0
 · subst mo
   have el:∀m p,elems ⟨h.cells,h.shut,m,p⟩ (.ref q 0 0 o.length)=some []:=fun m p=>by simp[elems,dH]
   have ap:∀m p r,kR r 1 4 ⟨h.cells,h.shut,m,p⟩ (.sl [] true) (.ref q 0 0 o.length)=some (.sl [] true,⟨h.cells,h.shut,m,p⟩,.wr):=fun m p r=>by
    unfold kR;rw[el];simp[kG]
   refine aK [0,2,4] fun F K=>?_
   obtain⟨f0,f2,f4⟩:=K
   have H:=bw (@aG) ap
   have K:=b3 f0 f2 f4;clear f0 f2 f4
   refine cV [0,2,4] fun F k=>?_;clear K H
   obtain⟨f0,f2,f4⟩:=k
   try refine b5 ?_
   simp[jG,f2]
   exact ⟨(Kept.u4 h).bump _ (by omega),.inl ⟨by simp,rfl⟩⟩
 · have ap:∀m p r,kR r 1 4 ⟨h.cells,h.shut,m,p⟩ (.sl [] true) (.ref q 0 n o.length)=some (.ref r 0 n n,⟨au h.cells r (some (bp (o.take n))),h.shut,m,p⟩,.wr):=fun m p r=>Yu dH ak (by omega) (by omega)
   have hle:(o.take n).length=n:=by rw[List.length_take];omega
   refine aK [0,2,4] fun F K=>?_
   obtain⟨f0,f2,f4⟩:=K
   have H:=bw (@aG) ap
   have K:=b3 f0 f2 f4;clear f0 f2 f4
   refine cV [0,2,4] fun F k=>?_;clear K H
   obtain⟨f0,f2,f4⟩:=k
   try refine b5 ?_
   simp[jG,f2]
   exact ⟨(Kept.u4 h).new _ _ (by omega) (by omega),.inr ⟨_,by rw[hle],by omega,⟨by simp only[au,if_true],c4 _,by show h.next+1+2+2<h.next+1+2+4;omega⟩⟩⟩
theorem Own.trans {a b c:ah} {v:I} {o:List Nat} (k:Kept a b) (x:Own b c v o):Own a c v o:=
 ⟨k.trans x.kept,x.val.imp id fun⟨r,U,h2,aA⟩=>⟨r,U,Nat.le_trans k.next h2,aA⟩⟩
theorem fC.kept {h h':ah} {q:Nat} {o:List Nat} (V:fC h q o) (k:Kept h h'):fC h' q o:=⟨by rw[k.cells q V.dZ];exact V.cells,by rw[k.shut];exact V.cc,Nat.lt_of_lt_of_le V.dZ k.next⟩
theorem Fo (Y:List cJ) (h:ah) (c4:∀j,h.shut j=false) {q:Nat} {o:List Nat} (V:fC h q o) (ax:Small o) (aG:0<o.length) (az:o.length<=1000000000):
 ∃v h',eP G (aI Tryz.prog) j1 Y (.fn 170) [.ref q 0 o.length o.length] h=some (v,h')/\Own h h' v (aa (val o)):=by
 refine jX Eh ?_
 have c3:=kX aG
 unfold i170
 refine aK [0,2,3,15] fun F K=>?_
 obtain⟨f0,f2,f3,f15⟩:=K
 have H:=trivial
 have K:=bM f0 f2 f3 f15;clear f0 f2 f3 f15
 refine cV [0,2,3,15] fun F k=>?_;clear K H
 obtain⟨f0,f2,f3,f15⟩:=k
 refine m3 (fun m s=>m<=o.length/\(∀i,m<=i->aD o i=0)/\Kept h s.h/\s.F 3=aJ m) (fun s=>∃m,m<=o.length/\(∀i,m<=i->aD o i=0)/\(m=0\/aD o (m - 1)≠0)/\Kept h s.h/\s.F 3=aJ m) (fun _=>False) o.length ?_ ?_ ?_ (fun _ _ h=>h.elim)
 · exact ⟨Nat.le_refl _,fun i ab=>rv ab,(Kept.u4 h).bump _ (by omega),by first|rfl|exact f3⟩
 · rintro m s ag ⟨hm,ar,K,eE⟩
   replace f0:=(ag 0 rfl).trans f0
   clear f3
   have f3:=eE
   have dH:=(V.kept K).cells
   have K:=bw f0 f3;clear f0 f3
   refine bO [0,3,15] fun F k=>?_;clear K
   obtain⟨f0,f3,f15⟩:=k
   cases m with
   | zero=>
     have H:=trivial
     have K:=b3 f0 f3 f15;clear f0 f3 f15
     refine cV [0,3,15] fun F k=>?_;clear K H
     obtain⟨f0,f3,f15⟩:=k
     exact ⟨0,by omega,ar,.inl rfl,K.bump _ (by omega),by first|rfl|exact f3⟩
   | succ m=>
     have go:=ko (show m<o.length by omega)
     have Nj:m<o.length:=by omega
     have hw:IntKind.i64.wrap (Z (m+1) - Z 1)=Z m:=by rw[cM (by omega) (by omega)];rfl
     by_cases ae:aD o m=0
     · skip
       have H:=c7 dH c3 go Nj hw ae
       have K:=b3 f0 f3 f15;clear f0 f3 f15
       refine cV [0,3,15] fun F k=>?_;clear K H
       obtain⟨f0,f3,f15⟩:=k
       refine⟨m,by omega,by omega,fun i ab=>?_,K.bump _ (by omega),by first|rfl|exact f3⟩
       by_cases e:i=m
       · subst e;exact ae
       · exact ar i (by omega)
     · skip
       have H:=c7 dH c3 go Nj hw ae
       have K:=b3 f0 f3 f15;clear f0 f3 f15
       refine cV [0,3,15] fun F k=>?_;clear K H
       obtain⟨f0,f3,f15⟩:=k
       exact ⟨m+1,hm,ar,.inr ae,K.bump _ (by omega),by first|rfl|exact f3⟩
 · rintro s ag ⟨m,hm,ar,jE,K,eE⟩
   replace f0:=(ag 0 rfl).trans f0
   clear f3
   have f3:=eE
   have aN:=Ep ax hm ar jE
   obtain⟨v,h',aq,own⟩:=Yw Y ⟨s.h.cells,s.h.shut,s.h.next+5,s.h.aV⟩ (fun j=>by show s.h.shut j=false;rw[K.shut];exact c4 j) ((V.kept K).bump (s.h.next+5) s.h.aV (by omega)) hm aG az
   rw[aN] at own
   have K:=bw f0 f3;clear f0 f3
   refine bO [0,2,3] fun F k=>?_;clear K
   obtain⟨f0,f2,f3⟩:=k
   have H:=bw aq hm
   have K:=b3 f0 f2 f3;clear f0 f2 f3
   refine cV [0,2,3] fun F k=>?_;clear K H
   obtain⟨f0,f2,f3⟩:=k
   try refine b5 ?_
   simp[jG,f2]
   exact Own.trans (K.bump _ (by omega)) own
theorem AJ {h g:ah} (K:Kept h g) {q:Nat} (aM:h.next<=q) (v:Option (List I)) (n:Nat) (p:Nat->Option fT) (ak:g.next<=n) (aF:p=g.aV:=by rfl):Kept h ⟨au g.cells q v,g.shut,n,p⟩:=
 ⟨Nat.le_trans K.next ak,fun j aB=>by
   have:j≠q:=by omega
   simp only[au,if_neg this];exact K.cells j aB,K.shut,by rw[aF];exact K.aV⟩
def Nk (h:ah) (a r w L i:Nat) (s:aL):Prop:=(∃q,h.next<=q/\∃o c,o.length=i/\Small o/\c<2^r/\val o+al i*c=a%al i*2^r/\s.F 5= .ref q 0 (w+i) (w+L+1)/\s.F 7=bo c/\Row s.h q (List.replicate w 0++o) (w+L+1))/\Kept h s.h
theorem Nl (Y:List cJ) (h:ah) (c4:∀j,h.shut j=false) {a n:Nat} {e:Bool} (eg:a≠0) (bs:(aa a).length<=100000000) (ak:n<=100000000):
 ∃v h',eP G (aI Tryz.prog) j1 Y (.fn 172) [b6 (aa a) e,aJ n] h=some (v,h')/\Own h h' v (aa (a*2^n)):=by
 refine jX Ei ?_
 have aC:=dD a
 have bP:aa a≠ []:=fun h=>eg (jJ.1 h)
 obtain⟨w,hw⟩:∃w,w=n/32:=⟨_,rfl⟩
 obtain⟨r,aR⟩:∃r,r=n%32:=⟨_,rfl⟩
 have mC:r<32:=by omega
 have iD:al w*(a*2^r)=a*2^n:=by
  rw[kB,Nat.mul_left_comm,<-Nat.pow_add,show 32*w+r=n by omega]
 have bB:2^r<=2147483648:=Nat.pow_le_pow_right (n:=2) (by decide) (show r<=31 by omega)
 obtain⟨L,bf⟩:∃L,L=(aa a).length:=⟨_,rfl⟩
 have a5:a<al L:=cE.1 (by omega)
 have EP:0<L:=by rw[bf];exact lV.2 eg
 unfold i172
 have xD:Z (w+L+1)*4<=140737488355328:=by simp only[Z];omega
 have vg:w<=w+L+1:=by omega
 have WO:n<9223372036854775808:=by omega
 refine aK [0,1,4,5,6,7,9,12,24,25,26,27] fun F K=>?_
 obtain⟨f0,f1,f4,f5,f6,f7,f9,f12,f24,f25,f26,f27⟩:=K
 have H:=dh hw.symm aR.symm bf.symm bP xD vg EP
 have K:=k9 f0 f1 f4 f5 f6 f7 f9 f12 f24 f25 f26 f27;clear f0 f1 f4 f5 f6 f7 f9 f12 f24 f25 f26 f27
 refine cV [0,1,4,5,6,7,9,12,24,25,26,27] fun F k=>?_;clear K H
 obtain⟨f0,f1,f4,f5,f6,f7,f9,f12,f24,f25,f26,f27⟩:=k
 refine gg L (fun i s=>Nk h a r w L i s/\s.F 26=aJ i) (Nk h a r w L L) (fun _=>False) ?_ ?_ ?_ (fun _ _ h=>h.elim)
 · refine⟨⟨⟨_,by omega,[],0,rfl,Small.nil,Nat.pow_pos (by decide),by simp[val,fG,Nat.mod_one],f5,f7,?_,c4 _,?_,?_⟩,(Kept.u4 h).new _ _ (by omega) (by omega)⟩,f26⟩
   · rw[List.append_nil,Mw vg,<-Mv];simp[au]
   · show h.next+1+3+8<h.next+1+3+10+3+1+3;omega
   · simp;omega
 · rintro i s ab ag ⟨⟨⟨q,n7,o,c,ay,ax,qw,an,dC,kn,R⟩,K⟩,xG⟩
   replace f0:=(ag 0 rfl).trans f0;replace f6:=(ag 6 rfl).trans f6;replace f24:=(ag 24 rfl).trans f24;replace f25:=(ag 25 rfl).trans f25
   clear f5 f7 f26
   have f5:=dC
   have f7:=kn
   have f26:=xG
   have K:=dh f0 f5 f6 f7 f24 f25 f26;clear f0 f5 f6 f7 f24 f25 f26
   refine bO [0,5,6,7,9,24,25,26,27] fun F k=>?_;clear K
   obtain⟨f0,f5,f6,f7,f9,f24,f25,f26,f27⟩:=k
   by_cases aT:i<L
   · have ae:=aC.aD i
     have eD:=(ka (show i<(aa a).length by omega)).symm
     have st:=Mz an
     rw[<-iH] at st
     have j3:=Mx (x:=aD (aa a) i) (by omega) qw
     have dz:=My (x:=aD (aa a) i) (by omega) qw
     have hlen:(List.replicate w 0++o).length=w+i:=by simp[ay]
     have ap:=R.app (by omega) (by omega) (aD (aa a) i*2^r%4294967296+c)
     rw[hlen] at ap
     have cC:min r 32=r:=by omega
     have dk:min r 64=r:=by omega
     have jz:aD (aa a) i*2^r/4294967296<2^r:=by
      rw[Nat.div_lt_iff_lt_mul (by decide),Nat.mul_comm]
      exact Nat.mul_lt_mul_of_pos_left ae (Nat.pow_pos (by decide))
     have ER:aD (aa a) i*2^r<18446744073709551616:=Nat.lt_of_le_of_lt (Nat.mul_le_mul (show aD (aa a) i<=4294967295 by omega) bB) (by decide)
     have tg:aD (aa a) i*2^r/4294967296<4294967296:=by omega
     have ES:=fun m p hm=>R.put (m:=m) (p:=p) (by omega) (aD (aa a) i*2^r%4294967296+c) hm
     have H:=kl aT eD j3 dz ap cC dk ER tg bf.symm
     have K:=fO f0 f5 f6 f7 f9 f24 f25 f26 f27;clear f0 f5 f6 f7 f9 f24 f25 f26 f27
     refine cV [0,5,6,7,9,24,25,26,27] fun F k=>?_;clear K H
     obtain⟨f0,f5,f6,f7,f9,f24,f25,f26,f27⟩:=k
     refine⟨⟨q,n7,o++ [aD (aa a) i*2^r%4294967296+c],_,by simp[ay],oI.2 ⟨ax,lT.2 ⟨dz,Small.nil⟩⟩,jz,?_,f5,f7,?_⟩,AJ K n7 _ _ _ (by omega)⟩
     · rw[mB,ay];simpa[val] using st
     · rw[<-List.append_assoc];refine ES _ _ ?_;omega
   · have nB:i=L:=by omega
     subst nB
     have H:=aT
     have K:=fO f0 f5 f6 f7 f9 f24 f25 f26 f27;clear f0 f5 f6 f7 f9 f24 f25 f26 f27
     refine cV [0,5,6,7,9,24,25,26,27] fun F k=>?_;clear K H
     obtain⟨f0,f5,f6,f7,f9,f24,f25,f26,f27⟩:=k
     exact ⟨⟨q,n7,o,c,ay,ax,qw,an,f5,f7,R.bump _ _ (by omega)⟩,Kept.bump K _ (by omega)⟩
 · rintro s ag ⟨⟨q,n7,o,c,ay,ax,qw,an,dC,kn,R⟩,K⟩
   clear f5 f7 f26
   have f5:=dC
   have f7:=kn
   have hlen:(List.replicate w 0++o).length=w+L:=by simp[ay]
   have tg:c<4294967296:=by omega
   have ap:=R.app (by omega) (by omega) c
   rw[hlen] at ap
   have ou:Small ((List.replicate w 0++o)++ [c]):=oI.2 ⟨oI.2 ⟨qt w,ax⟩,lT.2 ⟨tg,Small.nil⟩⟩
   have jm:((List.replicate w 0++o)++ [c]).length=w+L+1:=by simp[ay];omega
   rw[Nat.mod_eq_of_lt a5] at an
   have l2:val ((List.replicate w 0++o)++ [c])=a*2^n:=by
    rw[<-iD,List.append_assoc,Ez,mB,ay]
    simp only[val,Nat.mul_zero,Nat.add_zero];rw[an]
   rw[Mu jm] at ap
   generalize (List.replicate w 0++o)++ [c]=xs at*
   rw[show (xs.map fun x=>I.int .u32 (Z x))=bp xs from rfl] at ap
   have lE:Kept h ⟨au s.h.cells q (some (bp xs)),s.h.shut,s.h.next+6,s.h.aV⟩:=AJ K n7 _ _ _ (by omega)
   obtain⟨v,h',aq,own⟩:=Fo Y ⟨au s.h.cells q (some (bp xs)),s.h.shut,s.h.next+6,s.h.aV⟩ (fun j=>by show s.h.shut j=false;rw[K.shut];exact c4 j) (q:=q) (o:=xs) ⟨by simp only[au,if_true],R.cc,by show q<s.h.next+6;have:=R.dZ;omega⟩ ou (by omega) (by omega)
   rw[l2,jm] at*
   have K:=bw f5 f7;clear f5 f7
   refine bO [4,5,7] fun F k=>?_;clear K
   obtain⟨f4,f5,f7⟩:=k
   have H:=bw ap aq
   have K:=b3 f4 f5 f7;clear f4 f5 f7
   refine cV [4,5,7] fun F k=>?_;clear K H
   obtain⟨f4,f5,f7⟩:=k
   try refine b5 ?_
   simp[jG,f4]
   exact Own.trans lE own
end
end
section
set_option maxHeartbeats 8000000
open Go Go.Eng Go.RowKit
theorem jj {α:Type} (f:Nat->α) (k:Nat) (a b:α):au (au f k a) k b=au f k b:=by funext i;simp only[au];split<;>rfl
abbrev dN (p:Int × Bool):I:= .agg [.bool (a8 p.1),b6 (aa p.1.natAbs) p.2]
def c1 (o:List (Int × Bool)):List I:=o.map dN
abbrev zs (o:List (Int × Bool)):List Int:=o.map Prod.fst
theorem qC (o:List (Int × Bool)):(c1 o).length=o.length:=by simp[c1]
theorem Nm {o:List (Int × Bool)} {i:Nat} (h:i<o.length):(c1 o)[i]? =some (dN o[i]):=by simp[c1,h]
theorem vv (o:List (Int × Bool)) (i:Nat) (p:Int × Bool):(c1 o).set i (dN p)=c1 (o.set i p):=by simp[c1,List.map_set]
theorem Yx (o:List (Int × Bool)):(c1 o).all (fun e=>e.cells.length == 2)=true:=by simp[c1,I.cells]
theorem xW (o:List (Int × Bool)):(c1 o).all I.ea=true:=by simp[c1,I.ea,I.cells,I.dP]
theorem vw {o:List (Int × Bool)} (h:0<o.length):sizedB 2 (some (c1 o))=true:=by
 simp only[sizedB,Yx,Bool.and_true,decide_eq_true_eq,qC];exact h
theorem AK (o:List (Int × Bool)):k7 (c1 o)=(zs o).map fun z=>ai z:=by
 rw[qm,c1,List.map_map,List.map_map]
 refine List.map_congr_left fun p _=>?_
 exact LD p.1 p.2
theorem vx (l:List Int):(l.map fun z=>ai z)=c1 (l.map fun z=>(z,false)):=by simp[c1]
theorem Nn (l:List Int):zs (l.map fun z=>(z,false))=l:=by rw[zs,List.map_map];exact List.map_id l
theorem Fp (o:List (Int × Bool)) (i:Nat) (p:Int × Bool):zs (o.set i p)=(zs o).set i p.1:=by simp[zs,List.map_set]
theorem vy (o:List (Int × Bool)):(zs o).length=o.length:=by simp
structure jL (h:ah) (q:Nat) (o:List (Int × Bool)):Prop where
 cells:h.cells q=some (c1 o)
 cc:h.shut q=false
 dZ:q<h.next
theorem jL.bump {h:ah} {q:Nat} {o:List (Int × Bool)} (V:jL h q o) (n:Nat) (p:Nat->Option fT) (ak:h.next<=n):jL ⟨h.cells,h.shut,n,p⟩ q o:=⟨V.cells,V.cc,Nat.lt_of_lt_of_le V.dZ ak⟩
theorem jL.kept {h h':ah} {q:Nat} {o:List (Int × Bool)} (V:jL h q o) (k:Kept h h'):jL h' q o:=⟨by rw[k.cells q V.dZ];exact V.cells,by rw[k.shut];exact V.cc,Nat.lt_of_lt_of_le V.dZ k.next⟩
theorem jL.put {h:ah} {q:Nat} {o:List (Int × Bool)} (V:jL h q o) (o':List (Int × Bool)) (n:Nat) (p:Nat->Option fT) (ak:h.next<=n):jL ⟨au h.cells q (some (c1 o')),h.shut,n,p⟩ q o':=
 ⟨by simp only[au,if_true],V.cc,Nat.lt_of_lt_of_le V.dZ ak⟩
theorem jL.off {h:ah} {p q:Nat} {o:List (Int × Bool)} (R:jL h p o) (bP:p≠q) (v:Option (List I)) (m:Nat) (jV:Nat->Option fT) (hm:h.next<=m):jL ⟨au h.cells q v,h.shut,m,jV⟩ p o:=
 ⟨by show au h.cells q v p=_;simp only[au,if_neg bP];exact R.cells,R.cc,Nat.lt_of_lt_of_le R.dZ hm⟩
structure oQ (h h':ah) (v:I) (o:List (Int × Bool)):Prop where
 kept:Kept h h'
 val:(o= []/\v= .sl [] true)\/∃r,v= .ref r 0 o.length o.length/\h.next<=r/\jL h' r o
theorem oQ.trans {a b c:ah} {v:I} {o:List (Int × Bool)} (k:Kept a b) (x:oQ b c v o):oQ a c v o:=
 ⟨k.trans x.kept,x.val.imp id fun⟨r,U,h2,aA⟩=>⟨r,U,Nat.le_trans k.next h2,aA⟩⟩
theorem oQ.out {h h':ah} {v:I} {o:List (Int × Bool)} (x:oQ h h' v o):∃ids e,∀m p,dE ⟨h'.cells,h'.shut,m,p⟩ v=some (.sl (c1 o) e,ids)/\iU ⟨h'.cells,h'.shut,m,p⟩ v=some (.sl (c1 o) e,ids)/\jw ⟨h'.cells,h'.shut,m,p⟩ v=some (.sl (c1 o) e,ids):=by
 rcases x.val with⟨rfl,rfl⟩|⟨r,rfl,_,V⟩
 · exact ⟨[],true,fun m p=>⟨rfl,rfl,rfl⟩⟩
 · have e:∀m p,dE ⟨h'.cells,h'.shut,m,p⟩ (.ref r 0 o.length o.length)=some (.sl (c1 o) false,[r]):=fun m p=>by
    rw[fF]
    simp only[V.cells,Nat.zero_add,qC,Nat.le_refl,xW,and_self,if_true,List.drop_zero]
    rw[List.take_of_length_le (by rw[qC];exact Nat.le_refl _)]
   exact ⟨[r],false,fun m p=>⟨e m p,e m p,e m p⟩⟩
theorem oQ.outs {h h':ah} {v:I} {o:List (Int × Bool)} (x:oQ h h' v o):∃ids e,(∀m p,dE ⟨h'.cells,h'.shut,m,p⟩ v=some (.sl (c1 o) e,ids)/\iU ⟨h'.cells,h'.shut,m,p⟩ v=some (.sl (c1 o) e,ids)/\jw ⟨h'.cells,h'.shut,m,p⟩ v=some (.sl (c1 o) e,ids))/\dE h' v=some (.sl (c1 o) e,ids)/\iU h' v=some (.sl (c1 o) e,ids)/\jw h' v=some (.sl (c1 o) e,ids):=by
 obtain⟨ids,e,ay⟩:=x.out
 exact ⟨ids,e,ay,ay h'.next h'.aV⟩
def aX (p:List Int):Nat:=p.foldr (fun x m=>max (aE x) m) 0
theorem kp {L:Nat}:∀ {p:List Int},aX p<=L↔∀x∈p,aE x<=L
 | []=>by simp[aX]
 | x::p=>by
   have a6:=kp (L:=L) (p:=p)
   simp only[aX,List.foldr_cons,List.mem_cons,forall_eq_or_imp] at*
   rw[Nat.max_le,a6]
theorem xX (n:Nat):aE (n:Int)=(aa n).length:=by rw[aE,Int.natAbs_natCast]
theorem rQ:aE 0=0:=by simp[aE,eT]
theorem dr (p:List Int) (i:Nat):aE (p.getD i 0)<=aX p:=by
 by_cases h:i<p.length
 · exact kp.1 (Nat.le_refl _) _ (by simp[List.getD_eq_getElem?_getD,h])
 · simp[List.getD_eq_getElem?_getD,show p.length<=i by omega,rQ]
theorem oR {L:Nat} {p:List Int} (h:∀i,aE (p.getD i 0)<=L):aX p<=L:=kp.2 fun x ae=>by
 obtain⟨i,ab,rfl⟩:=List.getElem_of_mem ae
 have:=h i
 rwa [show p.getD i 0=p[i] by simp[List.getD_eq_getElem?_getD,ab]] at this
end
section
set_option maxHeartbeats 8000000
open Go Go.Eng Go.RowKit
def ll (ys:Nat->Int × Bool) (n i:Nat):List (Int × Bool):=(List.range i).map ys++List.replicate (n - i) (0,true)
theorem No (ys:Nat->Int × Bool) {n i:Nat} (h:i<=n):(ll ys n i).length=n:=by simp[ll];omega
theorem Np (ys:Nat->Int × Bool) (n:Nat):ll ys n 0=List.replicate n (0,true):=by simp[ll]
theorem Nq (ys:Nat->Int × Bool) (n:Nat):ll ys n n=(List.range n).map ys:=by simp[ll]
theorem Nr (ys:Nat->Int × Bool) {n i:Nat} (h:i<n):(ll ys n i).set i (ys i)=ll ys n (i+1):=by
 obtain⟨m,hm⟩:∃m,n - i=m+1:=⟨n - i - 1,by omega⟩
 have AL:n -(i+1)=m:=by omega
 rw[ll,ll,hm,AL,List.range_succ,List.map_append,List.replicate_succ,List.append_assoc]
 rw[List.set_append_right _ _ (by simp)]
 simp
theorem Ns:dN (0,true)= .agg [.bool false,.sl [] true]:=by
 simp only[dN,Int.natAbs_zero,eT,List.map_nil];rfl
theorem Fq (n:Nat):List.replicate n (I.agg [.bool false,.sl [] true])=c1 (List.replicate n (0,true)):=by
 rw[c1,List.map_replicate,Ns]
end
section
set_option maxHeartbeats 8000000
open Go Go.Eng Go.RowKit
attribute [local simp] aU.m aU.o aU.n aU.g e7 ew cT cB cX evalOp.eq_1 evalOp.eq_2 evalOp.eq_3 evalOp.eq_4 evalOp.eq_5 evalOp.eq_6 evalOp.eq_7 evalOp.eq_8 evalOp.eq_9 evalOp.eq_10 evalOp.eq_11 evalOp.eq_12 evalOp.eq_13 evalOp.eq_14 evalOp.eq_15 evalOp.eq_16 evalOp.eq_17 evalOp.eq_18 evalOp.eq_19 evalOp.eq_20 evalOp.eq_21 evalOp.eq_22 evalOp.eq_23 evalOp.eq_24 evalOp.eq_25 evalOp.eq_27 evalOp.eq_28 evalOp.eq_29 ig aS.ev cA au ah.new dQ I.cells I.cd I.dP I.ea gl gn gm gp gr gq hB hC hD fw fx cut partOf bound elems hF hG hH hI hJ hK hL hM hN hO hP hQ fF hR hS hT hU hV hW hX hY hZ h0 h1 h3 h4 h5 h6 h7 h8 h9 h_ ia ib ic ie eu eh dJ eY gu fM ah.close ah.set gf ih ij ik hE fN e8 eS dt e1 f' ft e2 ga gb gd eV eW eX eU gv bj fZ gw f_ gx gy eQ gz eR gA gB gC fs hA gD gE gF gG gH gI gJ gK gL gM gN gO gP gQ gR gS gT gU gV fz gW gX gY gZ g0 g1 g2 g3 g4 g5 g6 g7 g8 g9 g_
attribute [local simp high] hx hy hz g' ha hb hc hd hf hg hh hi hj hk hl hn ho hp hq hr hs ht hv
attribute [local simp] aG List.getElem?_cons_zero List.getElem?_cons_succ dw cM fe Nat.mod_eq_of_lt iw ix iy iz fk iA iB iC
section
attribute [local irreducible] ba
attribute [local simp] cW cI ct jj
def AM (aG:ah) (ys:Nat->Int × Bool) (n i:Nat) (s:aL):Prop:=∃q,s.F 5= .ref q 0 n n/\aG.next<=q/\jL s.h q (ll ys n i)/\Kept aG s.h
theorem Nt {h g:ah} (c4:∀j,h.next<=j->h.shut j=false) (K:Kept h g):∀j,g.next<=j->g.shut j=false:=fun j aB=>by
 rw[K.shut];exact c4 j (Nat.le_trans K.next aB)
theorem xY {tab:FuncId->Option (List I->Option I)} (Y:List cJ) (h:ah) (c4:∀j,h.next<=j->h.shut j=false) {st:FuncId} {caps:List I} (eO:tab st=none) {o:List (Int × Bool)} {e:Bool} {n:Nat} (ak:o.length=n) (az:n<=1000000) (ys:Nat->Int × Bool)
 (B:ah->Prop) (bB:∀g dS,Kept g dS->B g->B dS) (ad:B h)
 (J:∀i p g,o[i]? =some p->B g->(∀j,g.next<=j->g.shut j=false)->∃dS,eP G (aI Tryz.prog) tab Y (.fn st) (aJ i::dN p::caps) g=some (dN (ys i),dS)/\Kept g dS):
 ∃v h',eP G (aI Tryz.prog) tab Y (.fn 108) [.sl (c1 o) e,.fn st [] caps] h=some (v,h')/\oQ h h' v ((List.range n).map ys):=by
 refine jX KA ?_
 have xZ:Z n*32<=140737488355328:=by simp only[Z];omega
 have u2:=fun j (aB:h.next<=j)=>c4 j aB
 unfold i108
 refine aK [0,1,4,5,6,7,11,12,13,14] fun F K=>?_
 obtain⟨f0,f1,f4,f5,f6,f7,f11,f12,f13,f14⟩:=K
 have H:=bM (@qC) ak xZ (@Fq)
 have K:=kl f0 f1 f4 f5 f6 f7 f11 f12 f13 f14;clear f0 f1 f4 f5 f6 f7 f11 f12 f13 f14
 refine cV [0,1,4,5,6,7,11,12,13,14] fun F k=>?_;clear K H
 obtain⟨f0,f1,f4,f5,f6,f7,f11,f12,f13,f14⟩:=k
 refine gg n (fun i s=>AM h ys n i s/\s.F 13=aJ i) (AM h ys n n) (fun _=>False) ?_ ?_ ?_ (fun _ _ h=>h.elim)
 · refine⟨⟨_,f5,by omega,?_,(Kept.u4 h).new _ _ (by omega) (by omega)⟩,f13⟩
   rw[Np]
   exact ⟨by simp[au],c4 _ (by omega),by simp⟩
 · rintro i s ab ag ⟨⟨q,dC,aM,V,K⟩,xQ⟩
   replace f1:=(ag 1 rfl).trans f1;replace f11:=(ag 11 rfl).trans f11;replace f12:=(ag 12 rfl).trans f12
   clear f5 f13
   have f5:=dC
   have f13:=xQ
   have K:=bx f1 f5 f11 f12 f13;clear f1 f5 f11 f12 f13
   refine bO [1,5,6,7,11,12,13,14] fun F k=>?_;clear K
   obtain⟨f1,f5,f6,f7,f11,f12,f13,f14⟩:=k
   by_cases aT:i<n
   · obtain⟨p,aF⟩:∃p,o[i]? =some p:=⟨o[i],List.getElem?_eq_getElem (by omega)⟩
     have eD:(c1 o)[i]? =some (dN p):=by simp[c1,aF]
     have AN:=V.dZ
     have jm:=No ys (show i<=n by omega)
     have c3:=vw (o:=ll ys n i) (by omega)
     have go:=Nm (o:=ll ys n i) (i:=i) (by omega)
     have st:=vv (ll ys n i) i (ys i)
     rw[Nr ys aT] at st
     have pB:=K.next
     have lE:Kept h ⟨au s.h.cells (s.h.next+1+3) (some [dN p]),s.h.shut,s.h.next+1+6+8,s.h.aV⟩:=K.new _ _ (by omega) (by omega)
     obtain⟨dS,Fs,tt⟩:=J i p ⟨au s.h.cells (s.h.next+1+3) (some [dN p]),s.h.shut,s.h.next+1+6+8,s.h.aV⟩ aF (bB _ _ lE ad) (Nt c4 lE)
     have n_:jL ⟨au s.h.cells (s.h.next+1+3) (some [dN p]),s.h.shut,s.h.next+1+6+8,s.h.aV⟩ q (ll ys n i):=V.off (by omega) _ _ _ (by omega)
     have ln:=n_.kept tt
     have dH:=ln.cells
     have fq:=ln.cc
     have mH:=lE.trans tt
     have vz:=tt.next
     simp only at vz
     have Ft:s.h.shut (s.h.next+1+3)=false:=by rw[K.shut];exact c4 _ (by omega)
     have H:=kl aT eD eO Fs dH fq c3 go st Ft
     have K:=e9 f1 f5 f6 f7 f11 f12 f13 f14;clear f1 f5 f6 f7 f11 f12 f13 f14
     refine cV [1,5,6,7,11,12,13,14] fun F k=>?_;clear K H
     obtain⟨f1,f5,f6,f7,f11,f12,f13,f14⟩:=k
     exact ⟨q,f5,aM,ln.put _ _ _ (by omega),AJ mH aM _ _ _ (by omega)⟩
   · obtain rfl:i=n:=by omega
     have H:=trivial
     have K:=e9 f1 f5 f6 f7 f11 f12 f13 f14;clear f1 f5 f6 f7 f11 f12 f13 f14
     refine cV [1,5,6,7,11,12,13,14] fun F k=>?_;clear K H
     obtain⟨f1,f5,f6,f7,f11,f12,f13,f14⟩:=k
     exact ⟨q,f5,aM,V.bump _ _ (by omega),K.bump _ (by omega)⟩
 · rintro s ag ⟨q,dC,aM,V,K⟩
   clear f5 f13
   have f5:=dC
   have K:=f5;clear f5
   refine bO [4,5] fun F k=>?_;clear K
   obtain⟨f4,f5⟩:=k
   rw[Nq] at V
   have H:=trivial
   have K:=bw f4 f5;clear f4 f5
   refine cV [4,5] fun F k=>?_;clear K H
   obtain⟨f4,f5⟩:=k
   try refine b5 ?_
   simp[jG,f4]
   exact ⟨K.bump _ (by omega),.inr ⟨q,by simp,aM,V.bump _ _ (by omega)⟩⟩
end
section
attribute [local irreducible] ba
attribute [local simp] cW cI ct
theorem Yy (u v x y:Nat):((decide (u<x)=decide (v<y))->(u+x)*(v+y)+(if u<x then x - u else u - x)*(if v<y then y - v else v - y)=2*(u*v+x*y)/\(u+x)*(v+y) -(if u<x then x - u else u - x)*(if v<y then y - v else v - y)=2*(u*y+x*v))/\
 ((decide (u<x)≠decide (v<y))->(u+x)*(v+y) -(if u<x then x - u else u - x)*(if v<y then y - v else v - y)=2*(u*v+x*y)/\(u+x)*(v+y)+(if u<x then x - u else u - x)*(if v<y then y - v else v - y)=2*(u*y+x*v)):=by
 by_cases U:u<x<;>by_cases h2:v<y<;>simp only[U,h2,decide_true,decide_false,if_true,if_false,ne_eq,not_true,not_false_eq_true,false_implies,true_implies,and_true,true_and,Bool.true_eq_false,Bool.false_eq_true]
 · obtain⟨d,rfl⟩:∃d,x=u+d:=⟨x - u,by omega⟩
   obtain⟨e,rfl⟩:∃e,y=v+e:=⟨y - v,by omega⟩
   rw[Nat.add_sub_cancel_left,Nat.add_sub_cancel_left]
   exact ⟨by grind,Nat.sub_eq_of_eq_add (by grind)⟩
 · obtain⟨d,rfl⟩:∃d,x=u+d:=⟨x - u,by omega⟩
   obtain⟨e,rfl⟩:∃e,v=y+e:=⟨v - y,by omega⟩
   rw[Nat.add_sub_cancel_left,Nat.add_sub_cancel_left]
   exact ⟨Nat.sub_eq_of_eq_add (by grind),by grind⟩
 · obtain⟨d,rfl⟩:∃d,u=x+d:=⟨u - x,by omega⟩
   obtain⟨e,rfl⟩:∃e,y=v+e:=⟨y - v,by omega⟩
   rw[Nat.add_sub_cancel_left,Nat.add_sub_cancel_left]
   exact ⟨Nat.sub_eq_of_eq_add (by grind),by grind⟩
 · obtain⟨d,rfl⟩:∃d,u=x+d:=⟨u - x,by omega⟩
   obtain⟨e,rfl⟩:∃e,v=y+e:=⟨v - y,by omega⟩
   rw[Nat.add_sub_cancel_left,Nat.add_sub_cancel_left]
   exact ⟨by grind,Nat.sub_eq_of_eq_add (by grind)⟩
theorem Yz (x0 x1 x2 y0 y1 ed:Nat):∃E O bD fb de cO b8 bQ cF cY u:Nat,
 bD=(x0+x2+x1)*(y0+ed+y1)/\fb=mG x0 x1 x2*mG y0 y1 ed/\de=(x0+(x1*2^1+x2*2^2))*(y0+(y1*2^1+ed*2^2))/\cO=x0*y0/\cY=x2*ed/\
 (decide (x0+x2<x1)=decide (y0+ed<y1)->bD+fb=E/\bD - fb=O)/\(decide (x0+x2<x1)≠decide (y0+ed<y1)->bD - fb=E/\bD+fb=O)/\
 E/2^1 -(cO+cY)=bQ/\de -(cO+(bQ*2^2+cY*2^4))=u/\(u/2^1 - O/2^1)%3=0/\(u/2^1 - O/2^1)/3=cF/\O/2^1 - cF=b8/\
 (∀x∈ [bD,fb,de,E,O,cO,b8,bQ,cF,cY,cO+cY,E/2^1,O/2^1,bQ*2^2,cY*2^4,bQ*2^2+cY*2^4,cO+(bQ*2^2+cY*2^4),u,u/2^1,u/2^1 - O/2^1],x<=2*bD+de)/\
 b8=x0*y1+x1*y0/\bQ=x0*ed+x2*y0+x1*y1/\cF=x1*ed+x2*y1:=by
 obtain⟨U,h2⟩:=Yy (x0+x2) (y0+ed) x1 y1
 obtain⟨cO,iM⟩:∃c,c=x0*y0:=⟨_,rfl⟩
 obtain⟨b8,rC⟩:∃c,c=x0*y1+x1*y0:=⟨_,rfl⟩
 obtain⟨bQ,jz⟩:∃c,c=x0*ed+x2*y0+x1*y1:=⟨_,rfl⟩
 obtain⟨cF,vA⟩:∃c,c=x1*ed+x2*y1:=⟨_,rfl⟩
 obtain⟨cY,tu⟩:∃c,c=x2*ed:=⟨_,rfl⟩
 have YA:(x0+x2)*(y0+ed)+x1*y1=cO+bQ+cY:=by rw[iM,jz,tu];grind
 have C_:(x0+x2)*y1+x1*(y0+ed)=b8+cF:=by rw[rC,vA];grind
 have aq:(x0+x2+x1)*(y0+ed+y1)=cO+b8+bQ+cF+cY:=by rw[iM,rC,jz,vA,tu];grind
 have av:(x0+(x1*2^1+x2*2^2))*(y0+(y1*2^1+ed*2^2))=cO+2*b8+4*bQ+8*cF+16*cY:=by rw[iM,rC,jz,vA,tu];grind
 rw[YA,C_,show (if x0+x2<x1 then x1 -(x0+x2) else x0+x2 - x1)=mG x0 x1 x2 from rfl,show (if y0+ed<y1 then y1 -(y0+ed) else y0+ed - y1)=mG y0 y1 ed from rfl,aq] at U h2
 generalize mG x0 x1 x2*mG y0 y1 ed=fb at*
 have vu:fb<=cO+b8+bQ+cF+cY\/cO+b8+bQ+cF+cY<fb:=by omega
 refine⟨2*(cO+bQ+cY),2*(b8+cF),_,fb,_,cO,b8,bQ,cF,cY,2*(b8+4*cF),aq.symm,rfl,av.symm,iM,tu,U,h2,by omega,by omega,by omega,by omega,by omega,?_,rC,jz,vA⟩
 have vu:fb<=cO+b8+bQ+cF+cY:=by
  by_cases h:decide (x0+x2<x1)=decide (y0+ed<y1)
  · have:=U h;omega
  · have:=h2 h;omega
 intro x ae
 simp only[List.mem_cons,List.not_mem_nil,or_false] at ae
 omega
theorem YB {E O bD fb de cO b8 bQ cF cY u:Nat} (ar:(aa (2*bD+de)).length<=1000000)
 (vB:∀x∈ [bD,fb,de,E,O,cO,b8,bQ,cF,cY,cO+cY,E/2^1,O/2^1,bQ*2^2,cY*2^4,bQ*2^2+cY*2^4,cO+(bQ*2^2+cY*2^4),u,u/2^1,u/2^1 - O/2^1],x<=2*bD+de)
 (h2:E/2^1 -(cO+cY)=bQ) (hu:de -(cO+(bQ*2^2+cY*2^4))=u) (Fu:(u/2^1 - O/2^1)%3=0) (aA:(u/2^1 - O/2^1)/3=cF) (U:O/2^1 - cF=b8):
 ∃v1 v2 oS v4 qD v6 rR rS rT:Nat,jZ [af bD,af fb]=some (af (bD+fb))/\lj [af bD,af fb]=some (af (bD - fb))/\mE [af E,aJ 1]=some (af v4)/\mE [af O,aJ 1]=some (af oS)/\jZ [af cO,af cY]=some (af rT)/\lj [af v4,af rT]=some (af bQ)/\
  l_ [af bQ,aJ 2]=some (af rR)/\l_ [af cY,aJ 4]=some (af rS)/\jZ [af rR,af rS]=some (af v6)/\jZ [af cO,af v6]=some (af qD)/\lj [af de,af qD]=some (af u)/\mE [af u,aJ 1]=some (af v2)/\lj [af v2,af oS]=some (af v1)/\tq [af v1]=some (af cF)/\lj [af oS,af cF]=some (af b8):=by
 have sz:∀x,x∈ [bD,fb,de,E,O,cO,b8,bQ,cF,cY,cO+cY,E/2^1,O/2^1,bQ*2^2,cY*2^4,bQ*2^2+cY*2^4,cO+(bQ*2^2+cY*2^4),u,u/2^1,u/2^1 - O/2^1]->∀n,1000000<=n->(aa x).length<=n:=fun x ae n ak=>Nat.le_trans (gh (vB x ae)) (Nat.le_trans ar ak)
 have cp:∀x y,(∀n,1000000<=n->(aa x).length<=n)->(∀n,1000000<=n->(aa y).length<=n)->jZ [af x,af y]=some (af (x+y)):=fun x y ae aQ=>nE (ae _ (by decide)) (aQ _ (by decide))
 have le:∀x y,(∀n,1000000<=n->(aa x).length<=n)->(∀n,1000000<=n->(aa y).length<=n)->lj [af x,af y]=some (af (x - y)):=fun x y ae aQ=>E9 (x,y) ⟨ae _ (by decide),aQ _ (by decide)⟩ (by simp)
 have Fv:∀x,(∀n,1000000<=n->(aa x).length<=n)->mE [af x,aJ 1]=some (af (x/2^1)):=fun x ae=>MH (x,1) ⟨ae _ (by decide),show 1<=10000000000 by decide⟩ (by simp)
 have sl:∀x k,k<=4->(∀n,1000000<=n->(aa x).length<=n)->l_ [af x,aJ k]=some (af (x*2^k)):=fun x k ag ae=>tf (ae _ (by decide)) (by omega)
 have lX:tq [af (u/2^1 - O/2^1)]=some (af ((u/2^1 - O/2^1)/3)):=XM _ ⟨sz _ (by simp) _ (by decide),Fu⟩ (by simp)
 rw[aA] at lX
 refine⟨u/2^1 - O/2^1,u/2^1,O/2^1,E/2^1,cO+(bQ*2^2+cY*2^4),bQ*2^2+cY*2^4,bQ*2^2,cY*2^4,cO+cY,cp _ _ (sz _ (by simp)) (sz _ (by simp)),le _ _ (sz _ (by simp)) (sz _ (by simp)),Fv _ (sz _ (by simp)),Fv _ (sz _ (by simp)),cp _ _ (sz _ (by simp)) (sz _ (by simp)),?_,sl _ _ (by decide) (sz _ (by simp)),sl _ _ (by decide) (sz _ (by simp)),cp _ _ (sz _ (by simp)) (sz _ (by simp)),cp _ _ (sz _ (by simp)) (sz _ (by simp)),?_,Fv _ (sz _ (by simp)),le _ _ (sz _ (by simp)) (sz _ (by simp)),lX,?_⟩
 · have:=le (E/2^1) (cO+cY) (sz _ (by simp)) (sz _ (by simp));rwa [h2] at this
 · have:=le de (cO+(bQ*2^2+cY*2^4)) (sz _ (by simp)) (sz _ (by simp));rwa [hu] at this
 · have:=le (O/2^1) cF (sz _ (by simp)) (sz _ (by simp));rwa [U] at this
def nL (k:Nat) (cs:List Nat):Nat->Nat
 | 0=>0
 | i+1=>nL k cs i+aD cs i*2^(32*k*i)
theorem YC (k x0 x1 x2 y0 y1 ed:Nat):nL k [x0*y0,x0*y1+x1*y0,x0*ed+x2*y0+x1*y1,x1*ed+x2*y1,x2*ed] 5=(x0+al k*(x1+al k*x2))*(y0+al k*(y1+al k*ed)):=by
 rw[kB]
 simp only[nL,El,zV]
 rw[Nat.mul_zero,Nat.pow_zero,Nat.mul_one (32*k),show 32*k*2=32*k+32*k by omega,show 32*k*3=32*k+32*k+32*k by omega,show 32*k*4=32*k+32*k+32*k+32*k by omega]
 simp only[Nat.pow_add]
 generalize 2^(32*k)=P
 grind
theorem Fw:∀z w:Nat × Nat,(fun z:Nat × Nat=>[af z.1,af z.2]) z=(fun z:Nat × Nat=>[af z.1,af z.2]) w->(fun z:Nat × Nat=>af (z.1*z.2)) z=(fun z:Nat × Nat=>af (z.1*z.2)) w:=fun z w h=>by simp only at h|-;first|(simp only[List.cons.injEq,I.int.injEq,I.bool.injEq,I.sl.injEq,bX,bW,bU,b4,bZ,bq,bE,bY,bj,true_and,and_true] at h;simp[h];done)|(simp only[I.agg.injEq,List.cons.injEq,I.int.injEq,I.bool.injEq,I.sl.injEq,bX,bW,bU,b4,bZ,bq,bE,bY,bj,true_and,and_true] at h;simp[h])
noncomputable def x3:List I->Option I:=a9 (fun z:Nat × Nat=>(aa z.1).length<=500000/\(aa z.2).length<=500000) (fun z:Nat × Nat=>[af z.1,af z.2]) (fun z:Nat × Nat=>af (z.1*z.2))
theorem YD (z:Nat × Nat) (h:(aa z.1).length<=500000/\(aa z.2).length<=500000) {args:List I} (he:args.map I.loose= [af z.1,af z.2]):x3 args=some (af (z.1*z.2)):=bk Fw z h he
noncomputable def oT (N:Nat):List I->Option I:=a9 (fun z:Nat × Nat=>((aa z.1).length<=500000/\(aa z.2).length<=500000)/\(max (aa z.1).length (aa z.2).length)<N) (fun z:Nat × Nat=>[af z.1,af z.2]) (fun z:Nat × Nat=>af (z.1*z.2))
theorem x4 {N:Nat} (z:Nat × Nat) (h:((aa z.1).length<=500000/\(aa z.2).length<=500000)/\(max (aa z.1).length (aa z.2).length)<N) {args:List I} (he:args.map I.loose= [af z.1,af z.2]):oT N args=some (af (z.1*z.2)):=bk Fw z h he
theorem YE (h:∀N,aH Tryz.prog G 201 (oT N)->aH Tryz.prog G 201 (oT (N+1))):aH Tryz.prog G 201 x3:=Ke Fw (fun z:Nat × Nat=>max (aa z.1).length (aa z.2).length) h
noncomputable def nM (N:Nat):FuncId->Option (List I->Option I):=cf [(201,oT N),(202,tm),(252,rN),(256,vq),(257,lj),(258,tq),(174,jZ),(172,l_),(173,mE)]
theorem YF {N:Nat} (h:aH Tryz.prog G 201 (oT N)):∀f T,nM N f=some T->aH Tryz.prog G f T:=cg (by simp only[List.forall_mem_cons];exact ⟨h,MZ,MX,XV,E_,XN,ve,Ai,EY,fun _ h=>absurd h (by simp)⟩)
theorem Nu (N:Nat):nM N 201=some (oT N):=rfl
theorem Nv (N:Nat):nM N 202=some tm:=rfl
theorem Nw (N:Nat):nM N 252=some rN:=rfl
theorem Nx (N:Nat):nM N 256=some vq:=rfl
theorem Ny (N:Nat):nM N 257=some lj:=rfl
theorem Nz (N:Nat):nM N 258=some tq:=rfl
theorem NA (N:Nat):nM N 174=some jZ:=rfl
theorem NB (N:Nat):nM N 172=some l_:=rfl
theorem NC (N:Nat):nM N 173=some mE:=rfl
theorem ND (N:Nat):nM N 255=none:=rfl
attribute [local simp] Nu Nv Nw Nx Ny Nz NA NB NC ND
theorem NF (N:Nat) (Y:List cJ) (h:ah) {a k n p q:Nat} (ag:h.cells p=some [aJ k]) (ak:h.cells q=some [aJ n]) (YG:p<h.next) (n7:q<h.next) (c4:h.shut h.next=false) (bs:(aa a).length<=500000) (lW:2*k<=n) (jt:n<=500000):
 eP G (aI Tryz.prog) (nM N) Y (.fn 255) [af a,.ptr p 0 0,.ptr q 0 0] h=some (.agg [af (a%al k),af (a%al (2*k)/al k),af (a%al n/al (2*k))],⟨au (au h.cells h.next (some [.agg [.sl [] true,.sl [] true,.sl [] true]])) h.next (some [.agg [af (a%al k),af (a%al (2*k)/al k),af (a%al n/al (2*k))]]),h.shut,h.next+16,h.aV⟩):=by
 have bR:=xO (a,0,k) ⟨by simp only;omega,Nat.zero_le _,by simp only;omega⟩ (args:=[af a,aJ 0,aJ k]) (by simp)
 have a_:=xO (a,k,2*k) ⟨by simp only;omega,by simp only;omega,by simp only;omega⟩ (args:=[af a,aJ k,aJ (2*k)]) (by simp)
 have bn:=xO (a,2*k,n) ⟨by simp only;omega,by simp only;omega,by simp only;omega⟩ (args:=[af a,aJ (2*k),aJ n]) (by simp)
 simp only[fG,Nat.div_one] at bR a_ bn
 have b7:IntKind.i64.wrap (Z 2*Z k)=Z (2*k):=ql (by omega)
 generalize a%al k=x0 at*
 generalize a%al (2*k)/al k=x1 at*
 generalize a%al n/al (2*k)=x2 at*
 generalize 2*k=ajF at*
 obtain⟨v,h',e,rfl,rfl⟩:=jX (Φ:=aI Tryz.prog) (G:=G) (tab:=nM N) (Y:=Y) (h:=h) (args:=[af a,.ptr p 0 0,.ptr q 0 0]) (R:=fun v h'=>v= .agg [af x0,af x1,af x2]/\h'=⟨au (au h.cells h.next (some [.agg [.sl [] true,.sl [] true,.sl [] true]])) h.next (some [.agg [af x0,af x1,af x2]]),h.shut,h.next+16,h.aV⟩) Lg (by
  unfold i255
  refine aK [0,1,2,4] fun F K=>?_
  obtain⟨f0,f1,f2,f4⟩:=K
  have H:=e9 ag ak c4 bR a_ (@bn) b7 (@Nat.add_assoc)
  have K:=bM f0 f1 f2 f4;clear f0 f1 f2 f4
  refine cV [0,1,2,4] fun F k=>?_;clear K H
  obtain⟨f0,f1,f2,f4⟩:=k
  try refine b5 ?_
  simp[jG,f4])
 exact e
theorem NG {k:Nat} (u v w:Nat) (hu:(aa u).length<=k) (an:(aa v).length<=k) (hw:(aa w).length<=k):(aa (u+w+v)).length<=k+2/\(aa (mG u v w)).length<=k+2/\(aa (u+(v*2^1+w*2^2))).length<=k+3:=by
 have ajG:(aa (2^1)).length<=1:=cE.2 (by rw[lU];decide)
 have ajH:(aa (2^2)).length<=1:=cE.2 (by rw[lU];decide)
 have a1:=kA u w
 have eZ:=kA (u+w) v
 have zm:=kV v (2^1)
 have YH:=kV w (2^2)
 have YI:=kA (v*2^1) (w*2^2)
 have ajI:=kA u (v*2^1+w*2^2)
 have YJ:mG u v w<=u+w+v:=by unfold mG;split<;>omega
 have ajJ:=gh YJ
 omega
end
section
attribute [local irreducible] ba
attribute [local simp] cW cI ct Nu Nv Nw Nx Ny Nz NA NB NC ND
def AO (k:Nat) (cs:List Nat) (i:Nat) (s:aL):Prop:=∃e,s.F 29=b6 (aa (nL k cs i)) e
theorem YK {k:Nat} {cs:List Nat} (az:cs.length=5) (ag:k<=200000) (ax:∀x∈cs,(aa x).length<=1000000):∀i,i<5->(∀e,jZ [b6 (aa (nL k cs i)) e,af (aD cs i*2^(32*k*i))]=some (af (nL k cs (i+1))))/\l_ [af (aD cs i),aJ (32*k*i)]=some (af (aD cs i*2^(32*k*i))):=by
 have ad:∀i,i<=5->(aa (nL k cs i)).length<=i*4000000:=by
  intro i
  induction i with
  | zero=>intro _;simp[nL,eT]
  | succ i a6=>
    intro ab
    have U:=a6 (by omega)
    have h2:=ax _ (Em (l:=cs) (i:=i) (by omega))
    have aA:=kV (aD cs i) (2^(32*k*i))
    have aT:(aa (2^(32*k*i))).length<=k*i+1:=cE.2 (by rw[show 32*k*i=32*(k*i) by rw[Nat.mul_assoc],<-kB,er];have:=jI (k*i);omega)
    have cj:=kA (nL k cs i) (aD cs i*2^(32*k*i))
    have ei:k*i<=200000*5:=Nat.mul_le_mul ag (by omega)
    show (aa (nL k cs i+aD cs i*2^(32*k*i))).length<=_
    omega
 intro i ab
 have U:=ad i (by omega)
 have h2:=ax _ (Em (l:=cs) (i:=i) (by omega))
 have aA:=kV (aD cs i) (2^(32*k*i))
 have aT:(aa (2^(32*k*i))).length<=k*i+1:=cE.2 (by rw[show 32*k*i=32*(k*i) by rw[Nat.mul_assoc],<-kB,er];have:=jI (k*i);omega)
 have ei:k*i<=200000*5:=Nat.mul_le_mul ag (by omega)
 have nY:32*k*i=32*(k*i):=Nat.mul_assoc ..
 exact ⟨fun e=>nE (by omega) (by omega),tf (by omega) (by omega)⟩
theorem YL:aH Tryz.prog G 201 x3:=by
 refine YE fun N a6=>?_
 refine bg mixed (YF a6) K4 fun z ar=>?_
 obtain⟨a,b⟩:=z
 obtain⟨⟨bs,bp⟩,iN⟩:=ar
 simp only at bs bp iN|-
 obtain⟨L,bf⟩:∃L,L=(aa a).length:=⟨_,rfl⟩
 obtain⟨M,lN⟩:∃M,M=(aa b).length:=⟨_,rfl⟩
 obtain⟨n,ak⟩:∃n,n=max L M:=⟨_,rfl⟩
 have cC:=u7 L M
 have dk:=u9 L M
 rw[<-ak] at cC
 rw[<-bf] at iN
 rw[<-lN] at iN
 have a5:a<al n:=cE.1 (by omega)
 have bB:b<al n:=cE.1 (by omega)
 by_cases p7:min L M<7
 · have t:=MY (a,b) ⟨by simp only;omega,by simp only;omega⟩ (args:=[af a,af b]) (by simp)
   simp only at t
   generalize a*b=c at*
   unfold i201
   refine aK [0,1,4,5,6,7,8,9,10,11,12,13,14,15,16,17,18,19,20,21,22,23,24,25,26,27,28,29,30,31,42,97,131,132,133,134] fun F K=>?_
   obtain⟨f0,f1,f4,f5,f6,f7,f8,f9,f10,f11,f12,f13,f14,f15,f16,f17,f18,f19,f20,f21,f22,f23,f24,f25,f26,f27,f28,f29,f30,f31,f42,f97,f131,f132,f133,f134⟩:=K
   have H:=c7 bf.symm lN.symm cC dk p7 t
   have K:=Eb f0 f1 f4 f5 f6 f7 f8 f9 f10 f11 f12 f13 f14 f15 f16 f17 f18 f19 f20 f21 f22 f23 f24 f25 f26 f27 f28 f29 f30 f31 f42 f97 f131 f132 f133 f134;clear f0 f1 f4 f5 f6 f7 f8 f9 f10 f11 f12 f13 f14 f15 f16 f17 f18 f19 f20 f21 f22 f23 f24 f25 f26 f27 f28 f29 f30 f31 f42 f97 f131 f132 f133 f134
   exact kU [0,1,4,5,6,7,8,9,10,11,12,13,14,15,16,17,18,19,20,21,22,23,24,25,26,27,28,29,30,31,42,97,131,132,133,134]
 · obtain⟨k,ag⟩:∃k,k=(n+2)/3:=⟨_,rfl⟩
   have lW:k+1<n:=by omega
   have kK:k<=200000:=by omega
   have AP:∀x,x<al n->x=x%al k+al k*(x%al (2*k)/al k+al k*(x%al n/al (2*k)))/\(aa (x%al k)).length<=k/\(aa (x%al (2*k)/al k)).length<=k/\(aa (x%al n/al (2*k))).length<=k:=fun x ae=>by
    rw[Nat.mod_eq_of_lt ae]
    refine⟨?_,cE.2 (Nat.mod_lt _ (jI k)),cE.2 ?_,cE.2 ?_⟩
    · rw[show 2*k=k+k by omega,iP,<-Nat.div_div_eq_div_mul,Nat.mod_mul_right_div_self,Nat.mod_add_div,Nat.mod_add_div]
    · rw[show 2*k=k+k by omega,iP,Nat.mod_mul_right_div_self];exact Nat.mod_lt _ (jI k)
    · rw[Nat.div_lt_iff_lt_mul (jI _),<-iP]
      exact Nat.lt_of_lt_of_le ae (l6 (by omega))
   have AQ:=fun(h:ah) p q U h2 aA aT cj=>NF N [] h (a:=a) (k:=k) (n:=n) (p:=p) (q:=q) U h2 aA aT cj (by omega) (by omega) (by omega)
   have AR:=fun(h:ah) p q U h2 aA aT cj=>NF N [] h (a:=b) (k:=k) (n:=n) (p:=p) (q:=q) U h2 aA aT cj (by omega) (by omega) (by omega)
   have main:∃x0 x1 x2 y0 y1 ed a1 am eZ b1 Fx eo bD fb de cO b8 bQ cF cY:Nat,∃x5 x6:Bool,a%al k=x0/\a%al (2*k)/al k=x1/\a%al n/al (2*k)=x2/\b%al k=y0/\b%al (2*k)/al k=y1/\b%al n/al (2*k)=ed/\
    vq [.agg [af x0,af x1,af x2]]=some (.bK [af a1,af am,af eZ,.bool x5])/\vq [.agg [af y0,af y1,af ed]]=some (.bK [af b1,af Fx,af eo,.bool x6])/\
    oT N [af x0,af y0]=some (af cO)/\oT N [af x2,af ed]=some (af cY)/\oT N [af a1,af b1]=some (af bD)/\oT N [af am,af Fx]=some (af fb)/\oT N [af eZ,af eo]=some (af de)/\
    (∃E O u v1 v2 oS v4 qD v6 rR rS rT b7 c9:Nat,jZ [af bD,af fb]=some (af b7)/\lj [af bD,af fb]=some (af c9)/\((x5=x6/\b7=E/\c9=O)\/(x5≠x6/\c9=E/\b7=O))/\mE [af E,aJ 1]=some (af v4)/\mE [af O,aJ 1]=some (af oS)/\jZ [af cO,af cY]=some (af rT)/\lj [af v4,af rT]=some (af bQ)/\
      l_ [af bQ,aJ 2]=some (af rR)/\l_ [af cY,aJ 4]=some (af rS)/\jZ [af rR,af rS]=some (af v6)/\jZ [af cO,af v6]=some (af qD)/\lj [af de,af qD]=some (af u)/\mE [af u,aJ 1]=some (af v2)/\lj [af v2,af oS]=some (af v1)/\tq [af v1]=some (af cF)/\lj [af oS,af cF]=some (af b8))/\
    nL k [cO,b8,bQ,cF,cY] 5=a*b/\∀x∈ [cO,b8,bQ,cF,cY],(aa x).length<=1000000:=by
    obtain⟨YM,YN,YO,YP⟩:=AP a a5
    obtain⟨tv,YQ,YR,YS⟩:=AP b bB
    clear AP AQ AR cC dk bf lN
    generalize a%al k=x0 at*
    generalize a%al (2*k)/al k=x1 at*
    generalize a%al n/al (2*k)=x2 at*
    generalize b%al k=y0 at*
    generalize b%al (2*k)/al k=y1 at*
    generalize b%al n/al (2*k)=ed at*
    have fin:=YC k x0 x1 x2 y0 y1 ed
    rw[<-YM,<-tv] at fin
    obtain⟨E,O,bD,fb,de,cO,b8,bQ,cF,cY,u,ta,vu,mC,iM,tu,ax,a3,h2,hu,Fu,aA,U,vB,bu,ca,c5⟩:=Yz x0 x1 x2 y0 y1 ed
    obtain⟨M0,ajK,ajL⟩:=NG x0 x1 x2 YN YO YP
    obtain⟨M1,ajM,ajN⟩:=NG y0 y1 ed YQ YR YS
    have b1:=kV (x0+x2+x1) (y0+ed+y1)
    have k4:=kV (x0+(x1*2^1+x2*2^2)) (y0+(y1*2^1+ed*2^2))
    rw[<-ta] at b1
    rw[<-mC] at k4
    have two:(aa 2).length<=1:=cE.2 (by rw[lU];decide)
    have bL:=kV 2 bD
    have cq:=kA (2*bD) de
    have ar:(aa (2*bD+de)).length<=1000000:=by omega
    rw[<-iM,<-bu,<-ca,<-c5,<-tu] at fin
    obtain⟨v1,v2,oS,v4,qD,v6,rR,rS,rT,db,dc,fK⟩:=YB ar vB h2 hu Fu aA U
    refine⟨x0,x1,x2,y0,y1,ed,_,_,_,_,_,_,bD,fb,de,cO,b8,bQ,cF,cY,_,_,rfl,rfl,rfl,rfl,rfl,rfl,
     M6 (x0,x1,x2) ⟨by show (aa x0).length<=_;omega,by show (aa x1).length<=_;omega,by show (aa x2).length<=_;omega⟩ (by simp),M6 (y0,y1,ed) ⟨by show (aa y0).length<=_;omega,by show (aa y1).length<=_;omega,by show (aa ed).length<=_;omega⟩ (by simp),?_,?_,?_,?_,?_,⟨E,O,u,v1,v2,oS,v4,qD,v6,rR,rS,rT,_,_,db,dc,?_,fK⟩,fin,fun x ae=>?_⟩
    · rw[iM];exact x4 (x0,y0) ⟨⟨by simp only;omega,by simp only;omega⟩,by simp only;omega⟩ (by simp)
    · rw[tu];exact x4 (x2,ed) ⟨⟨by simp only;omega,by simp only;omega⟩,by simp only;omega⟩ (by simp)
    · rw[ta];exact x4 (x0+x2+x1,y0+ed+y1) ⟨⟨by simp only;omega,by simp only;omega⟩,by simp only;omega⟩ (by simp)
    · rw[vu];exact x4 (mG x0 x1 x2,mG y0 y1 ed) ⟨⟨by simp only;omega,by simp only;omega⟩,by simp only;omega⟩ (by simp)
    · rw[mC];exact x4 (x0+(x1*2^1+x2*2^2),y0+(y1*2^1+ed*2^2)) ⟨⟨by simp only;omega,by simp only;omega⟩,by simp only;omega⟩ (by simp)
    · by_cases h:decide (x0+x2<x1)=decide (y0+ed<y1)
      · exact .inl ⟨h,ax h⟩
      · exact .inr ⟨h,a3 h⟩
    · have Fy:x<=2*bD+de:=vB x (by simp only[List.mem_cons,List.not_mem_nil,or_false] at ae|-;rcases ae with rfl|rfl|rfl|rfl|rfl<;>simp)
      exact Nat.le_trans (gh Fy) ar
   obtain⟨x0,x1,x2,y0,y1,ed,a1,am,eZ,b1,Fx,eo,bD,fb,de,cO,b8,bQ,cF,cY,x5,x6,bJ,aq,av,aW,bT,fj,NH,NI,t0,t4,t1,t2,t3,⟨E,O,u,v1,v2,oS,v4,qD,v6,rR,rS,rT,b7,c9,s1,s2,YT,jh,mF,kY,oO,oL,oP,NJ,NK,Af,xC,NL,NM,NN⟩,fin,c3⟩:=main
   have lM:=YK (k:=k) (cs:=[cO,b8,bQ,cF,cY]) rfl kK c3
   rw[bJ,aq,av] at AQ
   rw[aW,bT,fj] at AR
   clear bJ aq av aW bT fj AP a5 bB c3
   have iW:(n+2)/3=k:=ag.symm
   have NO:∀i,i<5->IntKind.i64.wrap (Z 32*Z k)=Z (32*k)/\IntKind.i64.wrap (Z (32*k)*Z i)=Z (32*k*i):=fun i ab=>⟨ql (by omega),ql (by have:32*k*i<=32*200000*5:=Nat.mul_le_mul (Nat.mul_le_mul_left 32 kK) (by omega);omega)⟩
   have Fz:=AQ ⟨au (au (au (au (fun _=>none) 6 (some [aJ 0])) 6 (some [aJ n])) 17 (some [aJ 0])) 17 (some [aJ k]),fun _=>false,31,fun _=>none⟩ 17 6 (by simp[au]) (by simp[au]) (by show 17<31;decide) (by show 6<31;decide) rfl
   have FA:=AR ⟨au (au (au (au (au (au (fun _=>none) 6 (some [aJ 0])) 6 (some [aJ n])) 17 (some [aJ 0])) 17 (some [aJ k])) 31 (some [.agg [.sl [] true,.sl [] true,.sl [] true]])) 31 (some [.agg [af x0,af x1,af x2]]),fun _=>false,47,fun _=>none⟩ 17 6 (by simp[au]) (by simp[au]) (by show 17<47;decide) (by show 6<47;decide) rfl
   dsimp only at Fz FA
   clear AQ AR
   rw[<-fin]
   unfold i201
   rcases YT with⟨U,h2,aA⟩|⟨U,h2,aA⟩
   · subst U h2 aA
     refine aK [0,1,4,5,6,7,8,9,10,11,12,13,14,15,16,17,18,19,20,21,22,23,24,25,26,27,28,29,30,31,42,97,131,132,133,134] fun F K=>?_
     obtain⟨f0,f1,f4,f5,f6,f7,f8,f9,f10,f11,f12,f13,f14,f15,f16,f17,f18,f19,f20,f21,f22,f23,f24,f25,f26,f27,f28,f29,f30,f31,f42,f97,f131,f132,f133,f134⟩:=K
     have H:=Ui bf.symm lN.symm cC dk p7 iW Fz FA NH NI t0 t4 t1 t2 t3 s1 s2 jh mF kY oO oL oP NJ NK Af xC NL NM NN (@Fc) (@Fe) (@Ff)
     have K:=Eb f0 f1 f4 f5 f6 f7 f8 f9 f10 f11 f12 f13 f14 f15 f16 f17 f18 f19 f20 f21 f22 f23 f24 f25 f26 f27 f28 f29 f30 f31 f42 f97 f131 f132 f133 f134;clear f0 f1 f4 f5 f6 f7 f8 f9 f10 f11 f12 f13 f14 f15 f16 f17 f18 f19 f20 f21 f22 f23 f24 f25 f26 f27 f28 f29 f30 f31 f42 f97 f131 f132 f133 f134
     refine cV [0,1,4,5,6,7,8,9,10,11,12,13,14,15,16,17,18,19,20,21,22,23,24,25,26,27,28,29,30,31,42,97,131,132,133,134] fun F k=>?_;clear K H
     obtain⟨f0,f1,f4,f5,f6,f7,f8,f9,f10,f11,f12,f13,f14,f15,f16,f17,f18,f19,f20,f21,f22,f23,f24,f25,f26,f27,f28,f29,f30,f31,f42,f97,f131,f132,f133,f134⟩:=k
     generalize FB: [af cO,af b8,af bQ,af cF,af cY]=FC at*
     have w7:∀i,i<5->FC[i]? =some (af (aD [cO,b8,bQ,cF,cY] i)):=fun i ab=>by
      rw[<-FB]
      rcases show i=0\/i=1\/i=2\/i=3\/i=4 by omega with rfl|rfl|rfl|rfl|rfl<;>rfl
     generalize p': [cO,b8,bQ,cF,cY]=cs at*
     refine gg 5 (fun i s=>AO k cs i s/\s.F 133=aJ i/\s.h.cells 17=some [aJ k]) (AO k cs 5) (fun _=>False) ?_ ?_ ?_ (fun _ _ h=>h.elim)
     · exact ⟨⟨true,by rw[nL,eT];exact f29⟩,f133,by simp[au]⟩
     · rintro i s ab tw ⟨⟨e,tx⟩,FD,FE⟩
       have ag:=tw
       replace f6:=(ag 6 rfl).trans f6;replace f131:=(ag 131 rfl).trans f131;replace f132:=(ag 132 rfl).trans f132
       clear f29 f133 tw
       have f29:=tx
       have f133:=FD
       have K:=bx f6 f29 f131 f132 f133;clear f6 f29 f131 f132 f133
       refine bO [6,29,30,31,131,132,133,134] fun F k=>?_;clear K
       obtain⟨f6,f29,f30,f31,f131,f132,f133,f134⟩:=k
       by_cases cj:i<5
       · have tz:(Z i<(5:Int))=True:=eq_true (by simp only[Z];omega)
         have ge:=w7 i cj
         obtain⟨bG,ds⟩:=lM i cj
         have bG:=bG e
         obtain⟨mc,mI⟩:=NO i cj
         have FF:IntKind.i64.wrap (Z i+Z 1)=Z (i+1):=dw (by omega)
         generalize aD cs i=ci at*
         generalize 32*k*i=FG at*
         generalize ci*2^FG=YU at*
         have H:=fO tz ge bG ds mc mI FE cj FF
         have K:=e9 f6 f29 f30 f31 f131 f132 f133 f134;clear f6 f29 f30 f31 f131 f132 f133 f134
         refine cV [6,29,30,31,131,132,133,134] fun F k=>?_;clear K H
         obtain⟨f6,f29,f30,f31,f131,f132,f133,f134⟩:=k
         exact ⟨false,f29⟩
       · have tz:(Z i<(5:Int))=False:=eq_false (by simp only[Z];omega)
         obtain rfl:i=5:=by omega
         have H:=tz
         have K:=e9 f6 f29 f30 f31 f131 f132 f133 f134;clear f6 f29 f30 f31 f131 f132 f133 f134
         refine cV [6,29,30,31,131,132,133,134] fun F k=>?_;clear K H
         obtain⟨f6,f29,f30,f31,f131,f132,f133,f134⟩:=k
         exact ⟨e,f29⟩
     · rintro s tw ⟨e,tx⟩
       clear f29 f133
       have f29:=tx
       have K:=f29;clear f29
       refine bO [4,29] fun F k=>?_;clear K
       obtain⟨f4,f29⟩:=k
       have H:=trivial
       have K:=bw f4 f29;clear f4 f29
       exact kU [4,29]
   · subst h2 aA
     have ad:(x5 == x6)=false:=by simpa using U
     refine aK [0,1,4,5,6,7,8,9,10,11,12,13,14,15,16,17,18,19,20,21,22,23,24,25,26,27,28,29,30,31,42,97,131,132,133,134] fun F K=>?_
     obtain⟨f0,f1,f4,f5,f6,f7,f8,f9,f10,f11,f12,f13,f14,f15,f16,f17,f18,f19,f20,f21,f22,f23,f24,f25,f26,f27,f28,f29,f30,f31,f42,f97,f131,f132,f133,f134⟩:=K
     have H:=Uj bf.symm lN.symm cC dk p7 ad iW Fz FA NH NI t0 t4 t1 t2 t3 s1 s2 jh mF kY oO oL oP NJ NK Af xC NL NM NN (@Fc) (@Fe) (@Ff)
     have K:=Eb f0 f1 f4 f5 f6 f7 f8 f9 f10 f11 f12 f13 f14 f15 f16 f17 f18 f19 f20 f21 f22 f23 f24 f25 f26 f27 f28 f29 f30 f31 f42 f97 f131 f132 f133 f134;clear f0 f1 f4 f5 f6 f7 f8 f9 f10 f11 f12 f13 f14 f15 f16 f17 f18 f19 f20 f21 f22 f23 f24 f25 f26 f27 f28 f29 f30 f31 f42 f97 f131 f132 f133 f134
     refine cV [0,1,4,5,6,7,8,9,10,11,12,13,14,15,16,17,18,19,20,21,22,23,24,25,26,27,28,29,30,31,42,97,131,132,133,134] fun F k=>?_;clear K H
     obtain⟨f0,f1,f4,f5,f6,f7,f8,f9,f10,f11,f12,f13,f14,f15,f16,f17,f18,f19,f20,f21,f22,f23,f24,f25,f26,f27,f28,f29,f30,f31,f42,f97,f131,f132,f133,f134⟩:=k
     generalize FB: [af cO,af b8,af bQ,af cF,af cY]=FC at*
     have w7:∀i,i<5->FC[i]? =some (af (aD [cO,b8,bQ,cF,cY] i)):=fun i ab=>by
      rw[<-FB]
      rcases show i=0\/i=1\/i=2\/i=3\/i=4 by omega with rfl|rfl|rfl|rfl|rfl<;>rfl
     generalize p': [cO,b8,bQ,cF,cY]=cs at*
     refine gg 5 (fun i s=>AO k cs i s/\s.F 133=aJ i/\s.h.cells 17=some [aJ k]) (AO k cs 5) (fun _=>False) ?_ ?_ ?_ (fun _ _ h=>h.elim)
     · exact ⟨⟨true,by rw[nL,eT];exact f29⟩,f133,by simp[au]⟩
     · rintro i s ab tw ⟨⟨e,tx⟩,FD,FE⟩
       have ag:=tw
       replace f6:=(ag 6 rfl).trans f6;replace f131:=(ag 131 rfl).trans f131;replace f132:=(ag 132 rfl).trans f132
       clear f29 f133 tw
       have f29:=tx
       have f133:=FD
       have K:=bx f6 f29 f131 f132 f133;clear f6 f29 f131 f132 f133
       refine bO [6,29,30,31,131,132,133,134] fun F k=>?_;clear K
       obtain⟨f6,f29,f30,f31,f131,f132,f133,f134⟩:=k
       by_cases cj:i<5
       · have tz:(Z i<(5:Int))=True:=eq_true (by simp only[Z];omega)
         have ge:=w7 i cj
         obtain⟨bG,ds⟩:=lM i cj
         have bG:=bG e
         obtain⟨mc,mI⟩:=NO i cj
         have FF:IntKind.i64.wrap (Z i+Z 1)=Z (i+1):=dw (by omega)
         generalize aD cs i=ci at*
         generalize 32*k*i=FG at*
         generalize ci*2^FG=YU at*
         have H:=fO tz ge bG ds mc mI FE cj FF
         have K:=e9 f6 f29 f30 f31 f131 f132 f133 f134;clear f6 f29 f30 f31 f131 f132 f133 f134
         refine cV [6,29,30,31,131,132,133,134] fun F k=>?_;clear K H
         obtain⟨f6,f29,f30,f31,f131,f132,f133,f134⟩:=k
         exact ⟨false,f29⟩
       · have tz:(Z i<(5:Int))=False:=eq_false (by simp only[Z];omega)
         obtain rfl:i=5:=by omega
         have H:=tz
         have K:=e9 f6 f29 f30 f31 f131 f132 f133 f134;clear f6 f29 f30 f31 f131 f132 f133 f134
         refine cV [6,29,30,31,131,132,133,134] fun F k=>?_;clear K H
         obtain⟨f6,f29,f30,f31,f131,f132,f133,f134⟩:=k
         exact ⟨e,f29⟩
     · rintro s tw ⟨e,tx⟩
       clear f29 f133
       have f29:=tx
       have K:=f29;clear f29
       refine bO [4,29] fun F k=>?_;clear K
       obtain⟨f4,f29⟩:=k
       have H:=trivial
       have K:=bw f4 f29;clear f4 f29
       exact kU [4,29]
end
section
attribute [local irreducible] ba
attribute [local simp] cW cI ct
noncomputable def x7:FuncId->Option (List I->Option I):=cf [(203,vo),(202,tm),(201,x3)]
theorem YV:∀f T,x7 f=some T->aH Tryz.prog G f T:=cg (by simp only[List.forall_mem_cons];exact ⟨MV,MZ,YL,fun _ h=>absurd h (by simp)⟩)
theorem YW:x7 203=some vo:=rfl
theorem YX:x7 202=some tm:=rfl
theorem YY:x7 201=some x3:=rfl
theorem YZ:x7 200=none:=rfl
attribute [local simp] YW YX YY YZ
noncomputable def vC:List I->Option I:=a9 (fun z:Nat × Nat=>(aa z.1).length<=500000/\(aa z.2).length<=500000/\min (aa z.1).length (aa z.2).length<48) (fun z=>[af z.1,af z.2]) (fun z=>af (z.1*z.2))
theorem AS (z:Nat × Nat) (h:(aa z.1).length<=500000/\(aa z.2).length<=500000/\min (aa z.1).length (aa z.2).length<48) {args:List I} (he:args.map I.loose= [af z.1,af z.2]):vC args=some (af (z.1*z.2)):=bk (fun z w h=>by simp only[List.cons.injEq,I.int.injEq,I.bool.injEq,I.sl.injEq,bX,bW,bU,b4,bZ,bq,bE,bY,bj,true_and,and_true] at h;simp[h]) z h he
theorem NP:aH Tryz.prog G 137 vC:=by
 refine bg mixed YV KL fun z ar=>?_
 obtain⟨a,b⟩:=z
 obtain⟨bs,bp,pa⟩:=ar
 simp only at bs bp pa|-
 have t1:=MU (a,b) ⟨by simp only;omega,by simp only;omega⟩ (args:=[af a,af b]) (by simp)
 have t2:=MY (a,b) ⟨by simp only;omega,by simp only;omega⟩ (args:=[af a,af b]) (by simp)
 have t3:=YD (a,b) ⟨bs,bp⟩ (args:=[af a,af b]) (by simp)
 simp only at t1 t2 t3
 have m:=u9 (aa a).length (aa b).length
 generalize min (aa a).length (aa b).length=k at*
 generalize a*b=c at*
 obtain⟨W,lB⟩:∃W:List I,W= [.agg [.int .i64 (Z 48),.fn 200 [] []],.agg [.int .i64 (Z 14),.fn 201 [] []],.agg [.int .i64 (Z 8),.fn 202 [] []]]:=⟨_,rfl⟩
 have l7:W[0]? =some (.agg [.int .i64 (Z 48),.fn 200 [] []]):=by rw[lB];rfl
 have bL:W[1]? =some (.agg [.int .i64 (Z 14),.fn 201 [] []]):=by rw[lB];rfl
 have cq:W[2]? =some (.agg [.int .i64 (Z 8),.fn 202 [] []]):=by rw[lB];rfl
 unfold i137
 refine aK [0,1,4,6,10,11,12,13,23] fun F K=>?_
 obtain⟨f0,f1,f4,f6,f10,f11,f12,f13,f23⟩:=K
 have H:=m
 have K:=fO f0 f1 f4 f6 f10 f11 f12 f13 f23;clear f0 f1 f4 f6 f10 f11 f12 f13 f23
 refine bA [0,1,4,6,10,11,12,13,23] fun F k=>?_;clear K H
 obtain⟨f0,f1,f4,f6,f10,f11,f12,f13,f23⟩:=k
 have NQ:F 10= .sl W true:=by rw[f10,lB]
 have NR:F 11=aJ 3:=f11
 clear f10 f11
 have f10:=NQ
 have f11:=NR
 clear NQ NR lB
 refine gg 3 (fun i s=>s.F 12=aJ i/\(∀j,s.h.shut j=false)/\(0<i->k<48)/\(1<i->k<14)/\(2<i->k<8)) (fun s=>True) (fun s=>s.F 4=af c) ?_ ?_ ?_ ?_
 · exact ⟨f12,fun _=>rfl,by omega,by omega,by omega⟩
 · rintro i s ab ag ⟨mb,c4,U,h2,aA⟩
   replace f0:=(ag 0 rfl).trans f0;replace f1:=(ag 1 rfl).trans f1;replace f10:=(ag 10 rfl).trans f10;replace f11:=(ag 11 rfl).trans f11
   clear f12
   have f12:=mb
   have K:=bx f0 f1 f10 f11 f12;clear f0 f1 f10 f11 f12
   refine bO [0,1,4,6,10,11,12,13,23] fun F k=>?_;clear K
   obtain⟨f0,f1,f4,f6,f10,f11,f12,f13,f23⟩:=k
   rcases show i=0\/i=1\/i=2\/i=3 by omega with rfl|rfl|rfl|rfl
   · skip
     have H:=bM c4 l7 m pa
     have K:=fO f0 f1 f4 f6 f10 f11 f12 f13 f23;clear f0 f1 f4 f6 f10 f11 f12 f13 f23
     exact a7 [0,1,4,6,10,11,12,13,23]
   · by_cases rP:k<14
     · skip
       have H:=bM c4 bL m rP
       have K:=fO f0 f1 f4 f6 f10 f11 f12 f13 f23;clear f0 f1 f4 f6 f10 f11 f12 f13 f23
       exact a7 [0,1,4,6,10,11,12,13,23]
     · skip
       have H:=bx c4 bL m rP t3
       have K:=fO f0 f1 f4 f6 f10 f11 f12 f13 f23;clear f0 f1 f4 f6 f10 f11 f12 f13 f23
       exact a7 [0,1,4,6,10,11,12,13,23]
   · by_cases NS:k<8
     · skip
       have H:=bM c4 cq m NS
       have K:=fO f0 f1 f4 f6 f10 f11 f12 f13 f23;clear f0 f1 f4 f6 f10 f11 f12 f13 f23
       exact a7 [0,1,4,6,10,11,12,13,23]
     · skip
       have H:=bx c4 cq m NS t2
       have K:=fO f0 f1 f4 f6 f10 f11 f12 f13 f23;clear f0 f1 f4 f6 f10 f11 f12 f13 f23
       exact a7 [0,1,4,6,10,11,12,13,23]
   · skip
     have H:=trivial
     have K:=fO f0 f1 f4 f6 f10 f11 f12 f13 f23;clear f0 f1 f4 f6 f10 f11 f12 f13 f23
     exact a7 [0,1,4,6,10,11,12,13,23]
 · rintro s ag -
   replace f0:=(ag 0 rfl).trans f0;replace f1:=(ag 1 rfl).trans f1
   clear f12
   have K:=bw f0 f1;clear f0 f1
   refine bO [0,1,4] fun F k=>?_;clear K
   obtain⟨f0,f1,f4⟩:=k
   have H:=t1
   have K:=b3 f0 f1 f4;clear f0 f1 f4
   exact a7 [0,1,4]
 · rintro s ag aT
   simp[aT]
end
section
attribute [local irreducible] ba
attribute [local simp] cW cI ct
noncomputable def NT:FuncId->Option (List I->Option I):=cf [(137,vC)]
theorem Y0:∀f T,NT f=some T->aH Tryz.prog G f T:=cg (by simp only[List.forall_mem_cons];exact ⟨NP,fun _ h=>absurd h (by simp)⟩)
theorem Y1:NT 137=some vC:=rfl
attribute [local simp] Y1
theorem Y2 {x y:Nat} (ae:x≠0) (aQ:y≠0):(aa x).length+(aa y).length<=(aa (x*y)).length+1:=by
 have U:=lV.2 ae
 have h2:=lV.2 aQ
 have aA:al ((aa x).length - 1)<=x:=Eo.1 (by omega)
 have aT:al ((aa y).length - 1)<=y:=Eo.1 (by omega)
 have cj:=Nat.mul_le_mul aA aT
 rw[<-iP] at cj
 have:=Eo.2 cj
 omega
theorem NU {x y R:Nat} (h:x*y<=R) (e0:(aa R).length<=94):min (aa x).length (aa y).length<48:=by
 by_cases ae:x=0
 · subst ae;rw[eT];simp
 by_cases aQ:y=0
 · subst aQ;rw[eT];simp
 have U:=Y2 ae aQ
 have h2:=gh h
 omega
def NV (a n m:Nat) (s:aL):Prop:=∃o b e,o*b^m=a^n/\(aa o).length<=94/\(aa b).length<=94/\(a=0->b=0)/\s.F 5=b6 (aa o) e/\s.F 0=af b/\s.F 1=aJ m
theorem Y3 {o b m R:Nat} (h:o*b^m=R) (hm:m%2=1):(o*b)*(b*b)^(m/2)=R:=by
 have e:m=2*(m/2)+1:=by omega
 rw[<-h]
 generalize m/2=k at*
 subst e
 rw[Nat.pow_succ,Nat.pow_mul,Nat.pow_two,Nat.mul_assoc,Nat.mul_comm b]
theorem Y4 {o b m R:Nat} (h:o*b^m=R) (hm:m%2=0):o*(b*b)^(m/2)=R:=by
 have e:m=2*(m/2):=by omega
 rw[<-h]
 generalize m/2=k at*
 subst e
 rw[Nat.pow_mul,Nat.pow_two]
theorem NW {x y R:Nat} (h:x*y=R) (e0:R≠0):x<=R:=by
 rw[<-h];exact Nat.le_mul_of_pos_right _ (Nat.pos_of_ne_zero fun aG=>e0 (by rw[<-h,aG,Nat.mul_zero]))
theorem NX {a n:Nat} (h:a^n=0):a=0:=Decidable.byContradiction fun aC=>absurd h (Nat.ne_of_gt (Nat.pow_pos (Nat.pos_of_ne_zero aC)))
noncomputable def AT:List I->Option I:=a9 (fun z:Nat × Nat=>(aa z.1).length<=94/\z.2<9223372036854775808/\(aa (z.1^z.2)).length<=94) (fun z=>[af z.1,aJ z.2]) (fun z=>af (z.1^z.2))
theorem Y5 (z:Nat × Nat) (h:(aa z.1).length<=94/\z.2<9223372036854775808/\(aa (z.1^z.2)).length<=94) {args:List I} (he:args.map I.loose= [af z.1,aJ z.2]):AT args=some (af (z.1^z.2)):=bk (fun z w h=>by simp only[List.cons.injEq,I.int.injEq,I.bool.injEq,I.sl.injEq,bX,bW,bU,b4,bZ,bq,bE,bY,bj,true_and,and_true] at h;simp[h]) z h he
theorem Y6:aH Tryz.prog G 152 AT:=by
 refine bg mixed Y0 KP fun z ar=>?_
 obtain⟨a,n⟩:=z
 obtain⟨bs,ak,vb⟩:=ar
 simp only at bs ak vb|-
 unfold i152
 refine aK [0,1,4,5,8,13,18] fun F K=>?_
 obtain⟨f0,f1,f4,f5,f8,f13,f18⟩:=K
 have H:=trivial
 have K:=dh f0 f1 f4 f5 f8 f13 f18;clear f0 f1 f4 f5 f8 f13 f18
 refine bA [0,1,4,5,8,13,18] fun F k=>?_;clear K H
 obtain⟨f0,f1,f4,f5,f8,f13,f18⟩:=k
 refine m3 (fun m s=>m<9223372036854775808/\NV a n m s) (NV a n 0) (fun _=>False) n ?_ ?_ ?_ (fun _ _ h=>h.elim)
 · exact ⟨ak,1,a,true,Nat.one_mul _,by rw[ny];decide,bs,fun h=>h,by show F 5=_;rw[f5,ny];rfl,f0,f1⟩
 · rintro m s ag ⟨hm,o,b,e,an,cw,bp,fL,dC,l7,bL⟩
   clear f0 f1 f5
   have f0:=l7
   have f1:=bL
   have f5:=dC
   have K:=b3 f0 f1 f5;clear f0 f1 f5
   refine bO [0,1,5,8,13,18] fun F k=>?_;clear K
   obtain⟨f0,f1,f5,f8,f13,f18⟩:=k
   have pG:(m&&&1)=m%2:=Nat.and_one_is_mod m
   have c4:min 1 64=1:=by decide
   by_cases oK:m=0
   · subst oK
     have H:=trivial
     have K:=c7 f0 f1 f5 f8 f13 f18;clear f0 f1 f5 f8 f13 f18
     refine bA [0,1,5,8,13,18] fun F k=>?_;clear K H
     obtain⟨f0,f1,f5,f8,f13,f18⟩:=k
     exact ⟨o,b,e,an,cw,bp,fL,f5,f0,f1⟩
   · have rU:0<m:=by omega
     have wM:∀R,o*b^m=R->R≠0->1<m->b*b<=R:=fun R h e0 oU=>by
      have ad:b≠0:=fun aG=>e0 (by rw[<-h,aG,Nat.zero_pow (by omega),Nat.mul_zero])
      have U:b^m<=R:=by rw[Nat.mul_comm] at h;exact NW h e0
      have h2:b^2<=b^m:=Nat.pow_le_pow_right (by omega) oU
      rw[Nat.pow_two] at h2
      omega
     have l9:1<m->min (aa b).length (aa b).length<48/\(aa (b*b)).length<=94:=fun oU=>by
      by_cases e0:a^n=0
      · have:=fL (NX e0)
        subst this
        rw[Nat.zero_mul,eT];simp
      · have:=wM _ an e0 oU
        exact ⟨NU this vb,Nat.le_trans (gh this) vb⟩
     by_cases NY:m%2=1
     · have AU:=Y3 an NY
       have FH:min (aa o).length (aa b).length<48/\(aa (o*b)).length<=94:=by
        by_cases e0:a^n=0
        · have:=fL (NX e0)
          subst this
          rw[Nat.mul_zero,eT];simp
        · have:=NW AU e0
          exact ⟨NU this vb,Nat.le_trans (gh this) vb⟩
       have t1:=AS (o,b) ⟨by simp only;omega,by simp only;omega,FH.1⟩ (args:=[b6 (aa o) e,af b]) (by simp)
       simp only at t1
       by_cases oU:1<m
       · have t2:=AS (b,b) ⟨by simp only;omega,by simp only;omega,(l9 oU).1⟩ (args:=[af b,af b]) (by simp)
         have db:=(l9 oU).2
         simp only at t2
         generalize NZ:o*b=FI at*
         generalize FJ:b*b=eo at*
         have H:=dh rU pG NY oU c4 t1 t2
         have K:=c7 f0 f1 f5 f8 f13 f18;clear f0 f1 f5 f8 f13 f18
         refine bA [0,1,5,8,13,18] fun F k=>?_;clear K H
         obtain⟨f0,f1,f5,f8,f13,f18⟩:=k
         exact ⟨m/2,by omega,by omega,FI,eo,false,AU,FH.2,db,fun h=>by rw[<-FJ,fL h],f5,f0,rfl⟩
       · have Y7:m=1:=by omega
         subst Y7
         generalize NZ:o*b=FI at*
         have H:=b3 pG c4 t1
         have K:=c7 f0 f1 f5 f8 f13 f18;clear f0 f1 f5 f8 f13 f18
         refine bA [0,1,5,8,13,18] fun F k=>?_;clear K H
         obtain⟨f0,f1,f5,f8,f13,f18⟩:=k
         exact ⟨FI,b,false,by rw[<-NZ,Nat.pow_zero,Nat.mul_one];rw[Nat.pow_one] at an;exact an,FH.2,bp,fL,f5,f0,rfl⟩
     · have AV:m%2=0:=by omega
       have oU:1<m:=by omega
       have AU:=Y4 an AV
       have t2:=AS (b,b) ⟨by simp only;omega,by simp only;omega,(l9 oU).1⟩ (args:=[af b,af b]) (by simp)
       have db:=(l9 oU).2
       simp only at t2
       generalize FJ:b*b=eo at*
       have H:=c7 rU pG AV oU c4 t2
       have K:=c7 f0 f1 f5 f8 f13 f18;clear f0 f1 f5 f8 f13 f18
       refine bA [0,1,5,8,13,18] fun F k=>?_;clear K H
       obtain⟨f0,f1,f5,f8,f13,f18⟩:=k
       exact ⟨m/2,by omega,by omega,o,eo,e,AU,cw,db,fun h=>by rw[<-FJ,fL h],f5,f0,rfl⟩
 · rintro s ag ⟨o,b,e,an,cw,bp,fL,dC,l7,bL⟩
   rw[Nat.pow_zero,Nat.mul_one] at an
   subst an
   clear f0 f1 f5
   have f5:=dC
   have K:=f5;clear f5
   refine bO [4,5] fun F k=>?_;clear K
   obtain⟨f4,f5⟩:=k
   generalize a^n=r at*
   have H:=trivial
   have K:=bw f4 f5;clear f4 f5
   exact a7 [4,5]
end
end
end Go.Proofs.YtemiagcencajeaaGreatDoor
