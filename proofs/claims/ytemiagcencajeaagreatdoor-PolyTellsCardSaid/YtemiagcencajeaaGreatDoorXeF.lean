/- What the claim needs of the walks, put together by a program (shake.py). -/
import Derived.Test.YtemiagcencajeaaGreatDoorXeE
set_option maxRecDepth 100000
set_option linter.unusedSimpArgs false
set_option linter.unusedVariables false
set_option linter.unusedSectionVars false
namespace Go.Proofs.YtemiagcencajeaaGreatDoor
section
set_option maxHeartbeats 8000000
open Go Go.Eng Go.RowKit
theorem Vv {m o o' P B y r x a1 z:Nat} (hm:o'+P*y=o+P*(z/m)) (aO:y=0) (h:m*o+P*B*r=P*B*a1) (ar:z=r*B+x):m*o'+P*(z%m)=P*(x+B*a1):=by
 subst aO
 have e:P*(m*(z/m)+z%m)=P*z:=by rw[Nat.div_add_mod]
 rw[ar] at e|-
 rw[ar] at hm
 generalize (r*B+x)/m=q at*
 generalize (r*B+x)%m=t at*
 grind
end
section
set_option maxHeartbeats 8000000
open Go Go.Eng Go.RowKit
theorem K4 (a b:Int):cC (bc a != bc b) (a.natAbs*b.natAbs)=a*b:=by
 have aK:=sq a
 have aa:=sq b
 generalize a.natAbs=m at*
 generalize b.natAbs=k at*
 generalize bc a=s at*
 generalize bc b=t at*
 subst aK aa
 cases s<;>cases t<;>simp[cC,Int.neg_mul,Int.mul_neg]
theorem K5 (a:Int) (n:Nat):cC (bc a) (a.natAbs*2^n)=a*2^n:=by
 have h:=sq a
 generalize a.natAbs=m at*
 generalize bc a=s at*
 subst h
 cases s<;>simp[cC,Int.neg_mul]
end
section
set_option maxHeartbeats 8000000
open Go Go.Eng Go.RowKit
attribute [local simp] aU.m aU.o aU.n aU.g eM dN cE ch cM evalOp.eq_1 evalOp.eq_2 evalOp.eq_3 evalOp.eq_4 evalOp.eq_5 evalOp.eq_6 evalOp.eq_7 evalOp.eq_8 evalOp.eq_9 evalOp.eq_10 evalOp.eq_11 evalOp.eq_12 evalOp.eq_13 evalOp.eq_14 evalOp.eq_15 evalOp.eq_16 evalOp.eq_17 evalOp.eq_18 evalOp.eq_19 evalOp.eq_20 evalOp.eq_21 evalOp.eq_22 evalOp.eq_23 evalOp.eq_24 evalOp.eq_25 evalOp.eq_27 evalOp.eq_28 evalOp.eq_29 hX aQ.ev cg an af.new ds I.cells I.bW I.dk I.dh fU fW fV fX fZ fY hh hi hj e7 e8 cut partOf bound elems hl hn ho hp hq hr hs ht hv hx hy hz fm hA hB hC hD hE hF hG hH hI hJ hK hL hM hN hO hP hQ hR hS hT hU hV hW dM dC dz eF f_ fz af.close af.set fB hY hZ h0 hk fA fy fa dP fj fL fk fl fM fN fO eC eD eE eB f' bD fJ ga fK gb gd eo gf ep gg gh gi e1 hg gj gk gl gm gn gp gq gr gu gv gw gx gy gz gA gB gC gD gE e_ gF gG gH gI gJ gK gL gM gN gO gP gQ gR gS gT
attribute [local simp high] hc hd hf gU gV gW gX gY gZ g0 g1 g2 g3 g4 g5 g6 g7 g8 g9 g_ g' ha hb
attribute [local simp] aD List.getElem?_cons_zero List.getElem?_cons_succ dc cf eY Nat.mod_eq_of_lt ig ih ij ik e2 il im iq
section
attribute [local irreducible] a7
attribute [local simp] c5 cZ ck
noncomputable def qR:FuncId->Option (List I->Option I):=cA [(170,kp),(282,y9)]
theorem Vw:∀f T,qR f=some T->aP Tryz.prog G f T:=cH (by simp only[List.forall_mem_cons];exact ⟨pA,Vn,fun _ h=>absurd h (by simp)⟩)
theorem Vx:qR 170=some kp:=rfl
theorem Vy:qR 282=some y9:=rfl
theorem Vz:qR 281=none:=rfl
theorem VA:qR 293=none:=rfl
attribute [local simp] Vx Vy Vz VA
structure sA (bK b_ cr q y a m L i:Nat) (o:List Nat) (r:Nat) (h:af):Prop where
 ol:o.length=L
 os:Small o
 Dz:∀j,j<i->aB o j=0
 dn:r<m
 eq:m*val o+ah i*r=ah i*(a/ah i)
 cW:h.cells bK=some [bh m]
 iy:h.cells b_=some [.ref q 0 L L]
 nA:h.cells cr=some [bh r]
 kW:h.cells q=some (a' o)
 kX:h.shut q=false
 nU:h.shut cr=false
 j5:h.aS y=some .ready
 sB:y<h.next
theorem sA.bump {bK b_ cr q y a m L i:Nat} {o:List Nat} {r:Nat} {h:af} (ak:sA bK b_ cr q y a m L i o r h) (n:Nat) (aq:h.next<=n):sA bK b_ cr q y a m L i o r ⟨h.cells,h.shut,n,h.aS⟩:=
 ⟨ak.ol,ak.os,ak.Dz,ak.dn,ak.eq,ak.cW,ak.iy,ak.nA,ak.kW,ak.kX,ak.nU,ak.j5,Nat.lt_of_lt_of_le ak.sB aq⟩
theorem VB (Y:List cF) {F:Nat->I} {a m L i:Nat} (f3:F 3= .ptr 0 0 0) (f7:F 7= .ptr 9 0 0) (f8:F 8= .ptr 11 0 0) {h:af} {o:List Nat} {r:Nat} (hm:m<4294967296) (ak:sA 0 9 11 8 18 a m L (i+1) o r h) (ab:i<L):
 ∃u h',eX G (aE Tryz.prog) qR (⟨18,F,[18,19],(.seq (.region false [⟨(some 9),(.mv (.t 18)),none⟩] []) (.region false [⟨(some 10),(.mv (.t 19)),none⟩] [])),(.block 1 (.region true [⟨(some 21),(.load false 1 (.t 7)),none⟩,⟨(some 22),(.mv (.t 9)),none⟩,⟨(some 23),(.load false 1 (.t 8)),none⟩,⟨(some 24),(.mv (.t 10)),none⟩,⟨(some 25),(.load false 1 (.t 3)),none⟩,⟨(some 26),(.call (.f 282) [(.t 23),(.t 24),(.t 25)]),none⟩,⟨(some 20),(.mv (.t 26)),none⟩,⟨(some 27),(.extract (.t 20) 0),none⟩,⟨(some 28),(.extract (.t 20) 1),none⟩,⟨(some 29),(.iaddrS 1 (.t 21) (.t 22)),none⟩,⟨none,(.store 1 (.t 29) (.t 27)),none⟩,⟨none,(.store 1 (.t 8) (.t 28)),none⟩] [0,0,0,0,0,28,60,124,124,255,767,2047]))⟩::Y) (.k4 18) [aR i,bh (a/ah i%4294967296)] h=some (u,h')/\u= .bool true/\(∃o' iS,sA 0 9 11 8 18 a m L i o' iS h')/\h.next<=h'.next/\∀j,j=14->h'.cells j=h.cells j:=by
 have ae:a/ah i%4294967296<4294967296:=Nat.mod_lt _ (by decide)
 obtain⟨x,iP⟩:∃x,x=a/ah i%4294967296:=⟨_,rfl⟩
 rw[<-iP] at ae|-
 have t:=Vm (r,x,m) ⟨ak.dn,ae,hm⟩ (args:=[bh r,bh x,bh m]) (by simp)
 simp only at t
 obtain⟨d1,d2⟩:=KX ak.dn ae hm
 have iF:=ak.ol
 have st:=Vv (y:=aB o i) (mI (two r x/m) (show i<o.length by omega)) (ak.Dz i (by omega)) (by have:=ak.eq;rw[dR] at this;exact this) rfl
 rw[iP,<-dR,qF,Nat.mod_add_div] at st
 rw[<-iP] at st
 have go:=j0 (show i<o.length by omega)
 have sz:=kq (show 0<o.length by omega)
 have set:=oJ o i (two r x/m)
 have cW:=ak.cW
 have iy:=ak.iy
 have nA:=ak.nA
 have kW:=ak.kW
 have kX:=ak.kX
 have nU:=ak.nU
 have sB:=ak.sB
 clear iP
 generalize two r x=z at*
 refine HG (L:=⟨18,F,[18,19],(.seq (.region false [⟨(some 9),(.mv (.t 18)),none⟩] []) (.region false [⟨(some 10),(.mv (.t 19)),none⟩] [])),(.block 1 (.region true [⟨(some 21),(.load false 1 (.t 7)),none⟩,⟨(some 22),(.mv (.t 9)),none⟩,⟨(some 23),(.load false 1 (.t 8)),none⟩,⟨(some 24),(.mv (.t 10)),none⟩,⟨(some 25),(.load false 1 (.t 3)),none⟩,⟨(some 26),(.call (.f 282) [(.t 23),(.t 24),(.t 25)]),none⟩,⟨(some 20),(.mv (.t 26)),none⟩,⟨(some 27),(.extract (.t 20) 0),none⟩,⟨(some 28),(.extract (.t 20) 1),none⟩,⟨(some 29),(.iaddrS 1 (.t 21) (.t 22)),none⟩,⟨none,(.store 1 (.t 29) (.t 27)),none⟩,⟨none,(.store 1 (.t 8) (.t 28)),none⟩] [0,0,0,0,0,28,60,124,124,255,767,2047]))⟩) (Y':=Y) (by simp[n8]) rfl ?_
 simp only[mW]
 have fv:an (an F 18 (aR i)) 19 (bh x) 3= .ptr 0 0 0:=by simp[an,f3]
 have ew:an (an F 18 (aR i)) 19 (bh x) 7= .ptr 9 0 0:=by simp[an,f7]
 have eJ:an (an F 18 (aR i)) 19 (bh x) 8= .ptr 11 0 0:=by simp[an,f8]
 refine a8 (bf ou ?_)
 simp
 refine bf ou ?_
 simp[ak.j5,Nat.add_assoc]
 refine jX (bf ou ?_)
 simp(disch:=omega) [aD,List.getElem?_cons_zero,List.getElem?_cons_succ,dc,cf,eY,Nat.mod_eq_of_lt,ig,ih,ij,ik,e2,il,im,iq,f3,f7,f8,cW,iy,nA,kW,kX,nU,t,go,sz,set,ab,Nat.add_assoc,te,ke,xl,o3,qa]
 refine⟨by decide,o.set i (z/m),z%m,by rw[List.length_set];exact iF,mJ ak.os d1,fun j aA=>?_,Nat.mod_lt _ (by have:=ak.dn;omega),st,by simp[an,cW],by simp[an,iy],by simp[an],by simp[an],kX,nU,by simp[an],by show 18<h.next+14;omega⟩
 rw[m9 _ _ (by omega),if_neg (by omega)]
 exact ak.Dz j (by omega)
theorem VC (Y:List cF) (h:af) (l:List Nat) (e:Bool):
 eX G (aE Tryz.prog) qR Y (.fn 281) [bY l e] h=some (.fn 293 [] [.ptr h.next 0 0],⟨an h.cells h.next (some [bY l e]),h.shut,h.next+4,h.aS⟩):=by
 obtain⟨v,h',e,rfl,rfl⟩:=j8 (Φ:=aE Tryz.prog) (G:=G) (tab:=qR) (Y:=Y) (h:=h) (args:=[bY l e]) (R:=fun v h'=>v= .fn 293 [] [.ptr h.next 0 0]/\h'=⟨an h.cells h.next (some [bY l e]),h.shut,h.next+4,h.aS⟩) Jm (by
  unfold i281
  refine aL [0,1,2] fun F K=>?_
  obtain⟨f0,f1,f2⟩:=K
  have H:=(@Nat.add_assoc)
  have K:=bt f0 f1 f2;clear f0 f1 f2
  refine cI [0,1,2] fun F k=>?_;clear K H
  obtain⟨f0,f1,f2⟩:=k
  try refine bU ?_
  simp[jI,f2])
 exact e
noncomputable def ur:List I->Option I:=bl (fun z:Nat × Nat=>(ad z.1).length<=100000000/\z.2<4294967296) (fun z=>[ai z.1,bh z.2]) (fun z=>if z.2=0 then .bo [.sl [] false,bh 0,aR 3] else .bo [ai (z.1/z.2),bh (z.1%z.2),aR 0])
theorem VD (z:Nat × Nat) (h:(ad z.1).length<=100000000/\z.2<4294967296) {args:List I} (he:args.map I.loose= [ai z.1,bh z.2]):ur args=some (if z.2=0 then .bo [.sl [] false,bh 0,aR 3] else .bo [ai (z.1/z.2),bh (z.1%z.2),aR 0]):=bC (fun z w h=>by simp only[List.cons.injEq,I.int.injEq,I.bool.injEq,I.sl.injEq,cD,cB,cO,cP,cK,bO,b2,cJ,bD,true_and,and_true] at h;simp[h]) z h he
theorem K6:aP Tryz.prog G 259 ur:=by
 refine bB mixed Vw Jd fun z ar=>?_
 obtain⟨a,m⟩:=z
 obtain⟨bF,hm⟩:=ar
 simp only at bF hm|-
 unfold i259
 by_cases nO:m=0
 · rw[if_pos nO]
   subst nO
   refine aL [0,1,3,4,5,6,7,8,9,10,12,17,18,19] fun F K=>?_
   obtain⟨f0,f1,f3,f4,f5,f6,f7,f8,f9,f10,f12,f17,f18,f19⟩:=K
   have H:=trivial
   have K:=vU f0 f1 f3 f4 f5 f6 f7 f8 f9 f10 f12 f17 f18 f19;clear f0 f1 f3 f4 f5 f6 f7 f8 f9 f10 f12 f17 f18 f19
   exact kT [0,1,3,4,5,6,7,8,9,10,12,17,18,19]
 · rw[if_neg nO]
   have aK:=dB a
   obtain⟨L,bb⟩:∃L,L=(ad a).length:=⟨_,rfl⟩
   have a4:a<ah L:=ct.1 (by omega)
   have aT:Z L*4<=140737488355328:=by simp only[Z];omega
   refine aL [0,1,3,4,5,6,7,8,9,10,12,17,18,19] fun F K=>?_
   obtain⟨f0,f1,f3,f4,f5,f6,f7,f8,f9,f10,f12,f17,f18,f19⟩:=K
   have H:=bw nO aT (@y2) (@VC) bb.symm
   have K:=vU f0 f1 f3 f4 f5 f6 f7 f8 f9 f10 f12 f17 f18 f19;clear f0 f1 f3 f4 f5 f6 f7 f8 f9 f10 f12 f17 f18 f19
   refine cI [0,1,3,4,5,6,7,8,9,10,12,17,18,19] fun F k=>?_;clear K H
   obtain⟨f0,f1,f3,f4,f5,f6,f7,f8,f9,f10,f12,f17,f18,f19⟩:=k
   refine jX (HD f17 Jq ?_)
   have fv:=f3
   have ew:=f7
   have eJ:=f8
   clear f0 f1 f3 f4 f5 f6 f7 f8 f9 f10 f12 f17 f18 f19
   unfold i293
   simp
   have sr:IntKind.i64.wrap (Z L - Z 1)=eT L:=ko (by omega)
   refine aL [0,1,3,8,18] fun F K=>?_
   obtain⟨f0,f1,f3,f8,f18⟩:=K
   have H:=bA sr bb.symm
   have K:=bw f0 f1 f3 f8 f18;clear f0 f1 f3 f8 f18
   refine cI [0,1,3,8,18] fun F k=>?_;clear K H
   obtain⟨f0,f1,f3,f8,f18⟩:=k
   refine mF (fun k s=>k<=L/\(∃o r,sA 0 9 11 8 18 a m L k o r s.h)/\s.h.cells 14=some [ai a]/\s.F 3= .int .i64 (eT k)) (fun s=>∃o r,sA 0 9 11 8 18 a m L 0 o r s.h) (fun _=>False) L ?_ ?_ ?_ (fun _ _ h=>h.elim)
   · refine⟨Nat.le_refl _,⟨List.replicate L 0,0,?_⟩,by simp[an],f3⟩
     exact ⟨by simp,py _,fun j _=>v7 _ _,by omega,by simp[r_,Nat.div_eq_of_lt a4],by simp[an],by simp[an],by simp[an],by simp[an],by simp,by simp,by simp[an],by simp⟩
   · rintro k s ag ⟨adF,⟨o,r,ak⟩,v',K7⟩
     replace f0:=(ag 0 rfl).trans f0;replace f1:=(ag 1 rfl).trans f1
     clear f3
     have f3:=K7
     clear K7
     have K:=bt f0 f1 f3;clear f0 f1 f3
     refine bL [0,1,3,8,18] fun F k=>?_;clear K
     obtain⟨f0,f1,f3,f8,f18⟩:=k
     cases k with
     | zero=>
       rw[nM] at f3
       have H:=(@qQ)
       have K:=bw f0 f1 f3 f8 f18;clear f0 f1 f3 f8 f18
       refine cI [0,1,3,8,18] fun F k=>?_;clear K H
       obtain⟨f0,f1,f3,f8,f18⟩:=k
       exact ⟨o,r,ak.bump _ (by omega)⟩
     | succ i=>
       rw[nN] at f3
       have mM:=(j_ (show i<(ad a).length by omega)).symm
       rw[ir] at mM
       have nQ:=fun n aq=>ak.bump n aq
       have pF:i<L:=by omega
       have VE:IntKind.i64.wrap (Z i - Z 1)=eT i:=ko (by omega)
       obtain⟨u,h',rI,rfl,t_,rV,qS⟩:=VB [] fv ew eJ hm (nQ (s.h.next+10) (by omega)) pF
       have qS:=qS 14 rfl
       simp only at rV qS
       rw[v'] at qS
       have sB:=ak.sB
       have H:=dq v' mM pF VE rI (@Nat.add_assoc) bb.symm
       have K:=bw f0 f1 f3 f8 f18;clear f0 f1 f3 f8 f18
       refine cI [0,1,3,8,18] fun F k=>?_;clear K H
       obtain⟨f0,f1,f3,f8,f18⟩:=k
       obtain⟨o',iS,t_⟩:=t_
       exact ⟨i,Nat.lt_succ_self i,by omega,⟨o',iS,t_.bump _ (by omega)⟩,qS,by first|rfl|exact f3⟩
   · rintro s ag ⟨o,r,ak⟩
     have iy:=ak.iy
     have nA:=ak.nA
     have kW:=ak.kW
     have iF:=ak.ol
     have sB:=ak.sB
     have VF:8<s.h.next:=by omega
     have DA:9<s.h.next:=by omega
     have VG:11<s.h.next:=by omega
     have e:=ak.eq
     rw[fp,Nat.one_mul,Nat.one_mul,Nat.div_one] at e
     have uu:=ak.dn
     have al:val o=a/m:=by rw[<-e,Nat.mul_add_div (by omega),Nat.div_eq_of_lt uu,Nat.add_zero]
     have ao:r=a%m:=by rw[<-e,Nat.mul_add_mod,Nat.mod_eq_of_lt uu]
     have cT:=oE (e:=false) ak.os (show o.length<=1073741824 by omega)
     rw[al] at cT
     have iG:=y4 (show o.length<=L by omega)
     have nx:=y3 o
     have lE:=pE o
     have hle:L<=(a' o).length:=by omega
     rw[show (o.map fun n=>I.int .u32 (Z n))=a' o from rfl] at cT
     refine⟨trivial,⟨_,rfl⟩,?_⟩
     simp only[ak.j5]
     rw[<-ao]
     generalize a/m=VH at*
     simp
     have f7:=ew
     have f8:=eJ
     have K:=bA f7 f8;clear f7 f8
     refine bL [4,5,6,7,8] fun F k=>?_;clear K
     obtain⟨f4,f5,f6,f7,f8⟩:=k
     have H:=iU iy nA kW cT iG nx hle VF DA VG
     have K:=bw f4 f5 f6 f7 f8;clear f4 f5 f6 f7 f8
     exact kT [4,5,6,7,8]
end
section
attribute [local irreducible] a7
attribute [local simp] c5 cZ ck
noncomputable def jw:FuncId->Option (List I->Option I):=cA [(171,m_),(259,ur),(260,y_),(261,uq),(173,l0),(241,sg),(245,sh)]
theorem VI:∀f T,jw f=some T->aP Tryz.prog G f T:=cH (by simp only[List.forall_mem_cons];exact ⟨wb,K6,Vp,Vr,C4,J9,J',fun _ h=>absurd h (by simp)⟩)
theorem y':jw 171=some m_:=rfl
theorem VJ:jw 259=some ur:=rfl
theorem za:jw 260=some y_:=rfl
theorem zb:jw 261=some uq:=rfl
theorem zc:jw 173=some l0:=rfl
theorem K8:jw 241=some sg:=rfl
theorem K9:jw 245=some sh:=rfl
theorem zd:jw 170=none:=rfl
theorem VK:jw 238=none:=rfl
theorem ze:jw 172=none:=rfl
theorem wB:jw 262=none:=rfl
theorem wC:jw 263=none:=rfl
theorem VL:jw 205=none:=rfl
attribute [local simp] y' VJ za zb zc K8 K9 zd VK ze wB wC VL
structure Own (h h':af) (v:I) (o:List Nat):Prop where
 kept:Kept h h'
 val:(o= []/\v= .sl [] true)\/∃r,v= .ref r 0 o.length o.length/\h.next<=r/\fe h' r o
theorem VM (o:List Nat) (n:Nat):List.take n (a' o)=a' (o.take n):=by rw[a',a',List.map_take]
theorem VN (o:List Nat):(a' o).all (fun e=>e.cells.length == 1&&e.cells.all I.bW)=true:=by simp[a',I.cells,I.bW]
theorem VO (o:List Nat):(a' o).all (fun e=>e.cells.length == 1)=true:=by simp[a',I.cells]
theorem VP {r:Nat} {h:af} {q n N:Nat} {o:List Nat} (J:h.cells q=some (a' o)) (aq:n<=o.length) (aD:0<n) (aw:n<=1000000000):
 jt r 1 4 h (.sl [] true) (.ref q 0 n N)=some (.ref r 0 n n,h.new r (a' (o.take n)),.wr):=by
 have e:elems h (.ref q 0 n N)=some (a' (o.take n)):=by
  simp only[elems,J];rw[if_pos (by rw[pE];omega),List.drop_zero,VM]
 have hle:(a' (o.take n)).length=n:=by rw[pE,List.length_take];omega
 unfold jt
 rw[e]
 simp only[Option.bind_some]
 rw[if_pos ⟨by decide,by decide,VN _⟩,if_neg (by omega)]
 simp only[j1,hle,List.length_nil,Nat.zero_add,List.nil_append,Bool.false_eq_true,if_false]
 rw[if_pos (by refine⟨?_,?_,aD,?_⟩<;>first|trivial|omega|rfl)]
theorem VQ (Y:List cF) (h:af) (bV:∀j,h.shut j=false) {q n:Nat} {o:List Nat} (V:fe h q o) (aq:n<=o.length) (aD:0<o.length) (aw:o.length<=1000000000):
 ∃v h',eX G (aE Tryz.prog) jw Y (.fn 238) [.ref q 0 n o.length] h=some (v,h')/\Own h h' v (o.take n):=by
 refine j8 Cs ?_
 have dJ:=V.cells
 have c7:=kq aD
 unfold i238
 by_cases rG:n=0
 · subst rG
   have el:∀m p,elems ⟨h.cells,h.shut,m,p⟩ (.ref q 0 0 o.length)=some []:=fun m p=>by simp[elems,dJ]
   have ap:∀m p r,jt r 1 4 ⟨h.cells,h.shut,m,p⟩ (.sl [] true) (.ref q 0 0 o.length)=some (.sl [] true,⟨h.cells,h.shut,m,p⟩,.wr):=fun m p r=>by
    unfold jt;rw[el];simp[j1]
   refine aL [0,2,4] fun F K=>?_
   obtain⟨f0,f2,f4⟩:=K
   have H:=bA (@aD) ap
   have K:=bt f0 f2 f4;clear f0 f2 f4
   refine cI [0,2,4] fun F k=>?_;clear K H
   obtain⟨f0,f2,f4⟩:=k
   try refine bU ?_
   simp[jI,f2]
   exact ⟨(Kept.mE h).bump _ (by omega),.inl ⟨by simp,rfl⟩⟩
 · have ap:∀m p r,jt r 1 4 ⟨h.cells,h.shut,m,p⟩ (.sl [] true) (.ref q 0 n o.length)=some (.ref r 0 n n,⟨an h.cells r (some (a' (o.take n))),h.shut,m,p⟩,.wr):=fun m p r=>VP dJ aq (by omega) (by omega)
   have hle:(o.take n).length=n:=by rw[List.length_take];omega
   refine aL [0,2,4] fun F K=>?_
   obtain⟨f0,f2,f4⟩:=K
   have H:=bA (@aD) ap
   have K:=bt f0 f2 f4;clear f0 f2 f4
   refine cI [0,2,4] fun F k=>?_;clear K H
   obtain⟨f0,f2,f4⟩:=k
   try refine bU ?_
   simp[jI,f2]
   exact ⟨(Kept.mE h).new _ _ (by omega) (by omega),.inr ⟨_,by rw[hle],by omega,⟨by simp only[an,if_true],bV _,by show h.next+1+2+2<h.next+1+2+4;omega⟩⟩⟩
theorem Own.trans {a b c:af} {v:I} {o:List Nat} (k:Kept a b) (x:Own b c v o):Own a c v o:=
 ⟨k.trans x.kept,x.val.imp id fun⟨r,U,h2,az⟩=>⟨r,U,Nat.le_trans k.next h2,az⟩⟩
theorem fe.kept {h h':af} {q:Nat} {o:List Nat} (V:fe h q o) (k:Kept h h'):fe h' q o:=⟨by rw[k.cells q V.c6];exact V.cells,by rw[k.shut];exact V.bR,Nat.lt_of_lt_of_le V.c6 k.next⟩
theorem DB (Y:List cF) (h:af) (bV:∀j,h.shut j=false) {q:Nat} {o:List Nat} (V:fe h q o) (au:Small o) (aD:0<o.length) (aw:o.length<=1000000000):
 ∃v h',eX G (aE Tryz.prog) jw Y (.fn 170) [.ref q 0 o.length o.length] h=some (v,h')/\Own h h' v (ad (val o)):=by
 refine j8 Cp ?_
 have c7:=kq aD
 unfold i170
 refine aL [0,2,3,15] fun F K=>?_
 obtain⟨f0,f2,f3,f15⟩:=K
 have H:=trivial
 have K:=b4 f0 f2 f3 f15;clear f0 f2 f3 f15
 refine cI [0,2,3,15] fun F k=>?_;clear K H
 obtain⟨f0,f2,f3,f15⟩:=k
 refine mF (fun m s=>m<=o.length/\(∀i,m<=i->aB o i=0)/\Kept h s.h/\s.F 3=aR m) (fun s=>∃m,m<=o.length/\(∀i,m<=i->aB o i=0)/\(m=0\/aB o (m - 1)≠0)/\Kept h s.h/\s.F 3=aR m) (fun _=>False) o.length ?_ ?_ ?_ (fun _ _ h=>h.elim)
 · exact ⟨Nat.le_refl _,fun i ab=>qC ab,(Kept.mE h).bump _ (by omega),by first|rfl|exact f3⟩
 · rintro m s ag ⟨hm,ar,K,fv⟩
   replace f0:=(ag 0 rfl).trans f0
   clear f3
   have f3:=fv
   have dJ:=(V.kept K).cells
   have K:=bA f0 f3;clear f0 f3
   refine bL [0,3,15] fun F k=>?_;clear K
   obtain⟨f0,f3,f15⟩:=k
   cases m with
   | zero=>
     have H:=trivial
     have K:=bt f0 f3 f15;clear f0 f3 f15
     refine cI [0,3,15] fun F k=>?_;clear K H
     obtain⟨f0,f3,f15⟩:=k
     exact ⟨0,by omega,ar,.inl rfl,K.bump _ (by omega),by first|rfl|exact f3⟩
   | succ m=>
     have go:=j0 (show m<o.length by omega)
     have K_:m<o.length:=by omega
     have hw:IntKind.i64.wrap (Z (m+1) - Z 1)=Z m:=by rw[cf (by omega) (by omega)];rfl
     by_cases ae:aB o m=0
     · skip
       have H:=dW dJ c7 go K_ hw ae
       have K:=bt f0 f3 f15;clear f0 f3 f15
       refine cI [0,3,15] fun F k=>?_;clear K H
       obtain⟨f0,f3,f15⟩:=k
       refine⟨m,by omega,by omega,fun i ab=>?_,K.bump _ (by omega),by first|rfl|exact f3⟩
       by_cases e:i=m
       · subst e;exact ae
       · exact ar i (by omega)
     · skip
       have H:=dW dJ c7 go K_ hw ae
       have K:=bt f0 f3 f15;clear f0 f3 f15
       refine cI [0,3,15] fun F k=>?_;clear K H
       obtain⟨f0,f3,f15⟩:=k
       exact ⟨m+1,hm,ar,.inr ae,K.bump _ (by omega),by first|rfl|exact f3⟩
 · rintro s ag ⟨m,hm,ar,jd,K,fv⟩
   replace f0:=(ag 0 rfl).trans f0
   clear f3
   have f3:=fv
   have aJ:=Cy au hm ar jd
   obtain⟨v,h',al,own⟩:=VQ Y ⟨s.h.cells,s.h.shut,s.h.next+5,s.h.aS⟩ (fun j=>by show s.h.shut j=false;rw[K.shut];exact bV j) ((V.kept K).bump (s.h.next+5) s.h.aS (by omega)) hm aD aw
   rw[aJ] at own
   have K:=bA f0 f3;clear f0 f3
   refine bL [0,2,3] fun F k=>?_;clear K
   obtain⟨f0,f2,f3⟩:=k
   have H:=bA al hm
   have K:=bt f0 f2 f3;clear f0 f2 f3
   refine cI [0,2,3] fun F k=>?_;clear K H
   obtain⟨f0,f2,f3⟩:=k
   try refine bU ?_
   simp[jI,f2]
   exact Own.trans (K.bump _ (by omega)) own
theorem wD {h g:af} (K:Kept h g) {q:Nat} (aG:h.next<=q) (v:Option (List I)) (n:Nat) (p:Nat->Option ff) (aq:g.next<=n) (aF:p=g.aS:=by rfl):Kept h ⟨an g.cells q v,g.shut,n,p⟩:=
 ⟨Nat.le_trans K.next aq,fun j aA=>by
   have:j≠q:=by omega
   simp only[an,if_neg this];exact K.cells j aA,K.shut,by rw[aF];exact K.aS⟩
def K' (h:af) (a r w L i:Nat) (s:aI):Prop:=(∃q,h.next<=q/\∃o c,o.length=i/\Small o/\c<2^r/\val o+ah i*c=a%ah i*2^r/\s.F 5= .ref q 0 (w+i) (w+L+1)/\s.F 7=bh c/\Row s.h q (List.replicate w 0++o) (w+L+1))/\Kept h s.h
theorem La (Y:List cF) (h:af) (bV:∀j,h.shut j=false) {a n:Nat} {e:Bool} (ef:a≠0) (bF:(ad a).length<=100000000) (aq:n<=100000000):
 ∃v h',eX G (aE Tryz.prog) jw Y (.fn 172) [bY (ad a) e,aR n] h=some (v,h')/\Own h h' v (ad (a*2^n)):=by
 refine j8 Cq ?_
 have aK:=dB a
 have bG:ad a≠ []:=fun h=>ef (jN.1 h)
 obtain⟨w,hw⟩:∃w,w=n/32:=⟨_,rfl⟩
 obtain⟨r,aH⟩:∃r,r=n%32:=⟨_,rfl⟩
 have mH:r<32:=by omega
 have lB:ah w*(a*2^r)=a*2^n:=by
  rw[kV,Nat.mul_left_comm,<-Nat.pow_add,show 32*w+r=n by omega]
 have bj:2^r<=2147483648:=Nat.pow_le_pow_right (n:=2) (by decide) (show r<=31 by omega)
 obtain⟨L,bb⟩:∃L,L=(ad a).length:=⟨_,rfl⟩
 have a4:a<ah L:=ct.1 (by omega)
 have CX:0<L:=by rw[bb];exact lz.2 ef
 unfold i172
 have wi:Z (w+L+1)*4<=140737488355328:=by simp only[Z];omega
 have ub:w<=w+L+1:=by omega
 have T5:n<9223372036854775808:=by omega
 refine aL [0,1,4,5,6,7,9,12,24,25,26,27] fun F K=>?_
 obtain⟨f0,f1,f4,f5,f6,f7,f9,f12,f24,f25,f26,f27⟩:=K
 have H:=dq hw.symm aH.symm bb.symm bG wi ub CX
 have K:=jK f0 f1 f4 f5 f6 f7 f9 f12 f24 f25 f26 f27;clear f0 f1 f4 f5 f6 f7 f9 f12 f24 f25 f26 f27
 refine cI [0,1,4,5,6,7,9,12,24,25,26,27] fun F k=>?_;clear K H
 obtain⟨f0,f1,f4,f5,f6,f7,f9,f12,f24,f25,f26,f27⟩:=k
 refine iz L (fun i s=>K' h a r w L i s/\s.F 26=aR i) (K' h a r w L L) (fun _=>False) ?_ ?_ ?_ (fun _ _ h=>h.elim)
 · refine⟨⟨⟨_,by omega,[],0,rfl,Small.nil,Nat.pow_pos (by decide),by simp[val,fp,Nat.mod_one],f5,f7,?_,bV _,?_,?_⟩,(Kept.mE h).new _ _ (by omega) (by omega)⟩,f26⟩
   · rw[List.append_nil,Km ub,<-Kl];simp[an]
   · show h.next+1+3+8<h.next+1+3+10+3+1+3;omega
   · simp;omega
 · rintro i s ab ag ⟨⟨⟨q,pz,o,c,ay,au,pB,av,fr,ew,R⟩,K⟩,wk⟩
   replace f0:=(ag 0 rfl).trans f0;replace f6:=(ag 6 rfl).trans f6;replace f24:=(ag 24 rfl).trans f24;replace f25:=(ag 25 rfl).trans f25
   clear f5 f7 f26
   have f5:=fr
   have f7:=ew
   have f26:=wk
   have K:=dq f0 f5 f6 f7 f24 f25 f26;clear f0 f5 f6 f7 f24 f25 f26
   refine bL [0,5,6,7,9,24,25,26,27] fun F k=>?_;clear K
   obtain⟨f0,f5,f6,f7,f9,f24,f25,f26,f27⟩:=k
   by_cases aT:i<L
   · have ae:=aK.aB i
     have jZ:=(j_ (show i<(ad a).length by omega)).symm
     have st:=Kp av
     rw[<-ir] at st
     have jz:=Kn (x:=aB (ad a) i) (by omega) pB
     have dD:=Ko (x:=aB (ad a) i) (by omega) pB
     have hlen:(List.replicate w 0++o).length=w+i:=by simp[ay]
     have ap:=R.app (by omega) (by omega) (aB (ad a) i*2^r%4294967296+c)
     rw[hlen] at ap
     have c1:min r 32=r:=by omega
     have en:min r 64=r:=by omega
     have jD:aB (ad a) i*2^r/4294967296<2^r:=by
      rw[Nat.div_lt_iff_lt_mul (by decide),Nat.mul_comm]
      exact Nat.mul_lt_mul_of_pos_left ae (Nat.pow_pos (by decide))
     have CY:aB (ad a) i*2^r<18446744073709551616:=Nat.lt_of_le_of_lt (Nat.mul_le_mul (show aB (ad a) i<=4294967295 by omega) bj) (by decide)
     have sn:aB (ad a) i*2^r/4294967296<4294967296:=by omega
     have so:=fun m p hm=>R.put (m:=m) (p:=p) (by omega) (aB (ad a) i*2^r%4294967296+c) hm
     have H:=iU aT jZ jz dD ap c1 en CY sn bb.symm
     have K:=h7 f0 f5 f6 f7 f9 f24 f25 f26 f27;clear f0 f5 f6 f7 f9 f24 f25 f26 f27
     refine cI [0,5,6,7,9,24,25,26,27] fun F k=>?_;clear K H
     obtain⟨f0,f5,f6,f7,f9,f24,f25,f26,f27⟩:=k
     refine⟨⟨q,pz,o++ [aB (ad a) i*2^r%4294967296+c],_,by simp[ay],nK.2 ⟨au,lh.2 ⟨dD,Small.nil⟩⟩,jD,?_,f5,f7,?_⟩,wD K pz _ _ _ (by omega)⟩
     · rw[lY,ay];simpa[val] using st
     · rw[<-List.append_assoc];refine so _ _ ?_;omega
   · have lj:i=L:=by omega
     subst lj
     have H:=aT
     have K:=h7 f0 f5 f6 f7 f9 f24 f25 f26 f27;clear f0 f5 f6 f7 f9 f24 f25 f26 f27
     refine cI [0,5,6,7,9,24,25,26,27] fun F k=>?_;clear K H
     obtain⟨f0,f5,f6,f7,f9,f24,f25,f26,f27⟩:=k
     exact ⟨⟨q,pz,o,c,ay,au,pB,av,f5,f7,R.bump _ _ (by omega)⟩,Kept.bump K _ (by omega)⟩
 · rintro s ag ⟨⟨q,pz,o,c,ay,au,pB,av,fr,ew,R⟩,K⟩
   clear f5 f7 f26
   have f5:=fr
   have f7:=ew
   have hlen:(List.replicate w 0++o).length=w+L:=by simp[ay]
   have sn:c<4294967296:=by omega
   have ap:=R.app (by omega) (by omega) c
   rw[hlen] at ap
   have nr:Small ((List.replicate w 0++o)++ [c]):=nK.2 ⟨nK.2 ⟨py w,au⟩,lh.2 ⟨sn,Small.nil⟩⟩
   have jm:((List.replicate w 0++o)++ [c]).length=w+L+1:=by simp[ay];omega
   rw[Nat.mod_eq_of_lt a4] at av
   have lr:val ((List.replicate w 0++o)++ [c])=a*2^n:=by
    rw[<-lB,List.append_assoc,CH,lY,ay]
    simp only[val,Nat.mul_zero,Nat.add_zero];rw[av]
   rw[Kk jm] at ap
   generalize (List.replicate w 0++o)++ [c]=xs at*
   rw[show (xs.map fun x=>I.int .u32 (Z x))=a' xs from rfl] at ap
   have l2:Kept h ⟨an s.h.cells q (some (a' xs)),s.h.shut,s.h.next+6,s.h.aS⟩:=wD K pz _ _ _ (by omega)
   obtain⟨v,h',al,own⟩:=DB Y ⟨an s.h.cells q (some (a' xs)),s.h.shut,s.h.next+6,s.h.aS⟩ (fun j=>by show s.h.shut j=false;rw[K.shut];exact bV j) (q:=q) (o:=xs) ⟨by simp only[an,if_true],R.bR,by show q<s.h.next+6;have:=R.c6;omega⟩ nr (by omega) (by omega)
   rw[lr,jm] at*
   have K:=bA f5 f7;clear f5 f7
   refine bL [4,5,7] fun F k=>?_;clear K
   obtain⟨f4,f5,f7⟩:=k
   have H:=bA ap al
   have K:=bt f4 f5 f7;clear f4 f5 f7
   refine cI [4,5,7] fun F k=>?_;clear K H
   obtain⟨f4,f5,f7⟩:=k
   try refine bU ?_
   simp[jI,f4]
   exact Own.trans l2 own
end
end
section
set_option maxHeartbeats 8000000
open Go Go.Eng Go.RowKit
theorem jO {α:Type} (f:Nat->α) (k:Nat) (a b:α):an (an f k a) k b=an f k b:=by funext i;simp only[an];split<;>rfl
abbrev dT (p:Int × Bool):I:= .agg [.bool (bc p.1),bY (ad p.1.natAbs) p.2]
def c3 (o:List (Int × Bool)):List I:=o.map dT
abbrev zs (o:List (Int × Bool)):List Int:=o.map Prod.fst
theorem sC (o:List (Int × Bool)):(c3 o).length=o.length:=by simp[c3]
theorem zf {o:List (Int × Bool)} {i:Nat} (h:i<o.length):(c3 o)[i]? =some (dT o[i]):=by simp[c3,h]
theorem uv (o:List (Int × Bool)) (i:Nat) (p:Int × Bool):(c3 o).set i (dT p)=c3 (o.set i p):=by simp[c3,List.map_set]
theorem VR (o:List (Int × Bool)):(c3 o).all (fun e=>e.cells.length == 2)=true:=by simp[c3,I.cells]
theorem zg (o:List (Int × Bool)):(c3 o).all I.dh=true:=by simp[c3,I.dh,I.cells,I.dk]
theorem pG {o:List (Int × Bool)} (h:0<o.length):sizedB 2 (some (c3 o))=true:=by
 simp only[sizedB,VR,Bool.and_true,decide_eq_true_eq,sC];exact h
theorem uw (o:List (Int × Bool)):kk (c3 o)=(zs o).map fun z=>ax z:=by
 rw[nB,c3,List.map_map,List.map_map]
 refine List.map_congr_left fun p _=>?_
 exact Cz p.1 p.2
theorem VS (l:List Int):(l.map fun z=>ax z)=c3 (l.map fun z=>(z,false)):=by simp[c3]
theorem wE (l:List Int):zs (l.map fun z=>(z,false))=l:=by rw[zs,List.map_map];exact List.map_id l
theorem wF (o:List (Int × Bool)) (i:Nat) (p:Int × Bool):zs (o.set i p)=(zs o).set i p.1:=by simp[zs,List.map_set]
theorem nW (o:List (Int × Bool)):(zs o).length=o.length:=by simp
structure iH (h:af) (q:Nat) (o:List (Int × Bool)):Prop where
 cells:h.cells q=some (c3 o)
 bR:h.shut q=false
 c6:q<h.next
theorem iH.bump {h:af} {q:Nat} {o:List (Int × Bool)} (V:iH h q o) (n:Nat) (p:Nat->Option ff) (aq:h.next<=n):iH ⟨h.cells,h.shut,n,p⟩ q o:=⟨V.cells,V.bR,Nat.lt_of_lt_of_le V.c6 aq⟩
theorem iH.kept {h h':af} {q:Nat} {o:List (Int × Bool)} (V:iH h q o) (k:Kept h h'):iH h' q o:=⟨by rw[k.cells q V.c6];exact V.cells,by rw[k.shut];exact V.bR,Nat.lt_of_lt_of_le V.c6 k.next⟩
theorem iH.put {h:af} {q:Nat} {o:List (Int × Bool)} (V:iH h q o) (o':List (Int × Bool)) (n:Nat) (p:Nat->Option ff) (aq:h.next<=n):iH ⟨an h.cells q (some (c3 o')),h.shut,n,p⟩ q o':=
 ⟨by simp only[an,if_true],V.bR,Nat.lt_of_lt_of_le V.c6 aq⟩
theorem iH.off {h:af} {p q:Nat} {o:List (Int × Bool)} (R:iH h p o) (bG:p≠q) (v:Option (List I)) (m:Nat) (j5:Nat->Option ff) (hm:h.next<=m):iH ⟨an h.cells q v,h.shut,m,j5⟩ p o:=
 ⟨by show an h.cells q v p=_;simp only[an,if_neg bG];exact R.cells,R.bR,Nat.lt_of_lt_of_le R.c6 hm⟩
structure nX (h h':af) (v:I) (o:List (Int × Bool)):Prop where
 kept:Kept h h'
 val:(o= []/\v= .sl [] true)\/∃r,v= .ref r 0 o.length o.length/\h.next<=r/\iH h' r o
theorem nX.trans {a b c:af} {v:I} {o:List (Int × Bool)} (k:Kept a b) (x:nX b c v o):nX a c v o:=
 ⟨k.trans x.kept,x.val.imp id fun⟨r,U,h2,az⟩=>⟨r,U,Nat.le_trans k.next h2,az⟩⟩
theorem nX.out {h h':af} {v:I} {o:List (Int × Bool)} (x:nX h h' v o):∃ids e,∀m p,df ⟨h'.cells,h'.shut,m,p⟩ v=some (.sl (c3 o) e,ids)/\ib ⟨h'.cells,h'.shut,m,p⟩ v=some (.sl (c3 o) e,ids)/\iY ⟨h'.cells,h'.shut,m,p⟩ v=some (.sl (c3 o) e,ids):=by
 rcases x.val with⟨rfl,rfl⟩|⟨r,rfl,_,V⟩
 · exact ⟨[],true,fun m p=>⟨rfl,rfl,rfl⟩⟩
 · have e:∀m p,df ⟨h'.cells,h'.shut,m,p⟩ (.ref r 0 o.length o.length)=some (.sl (c3 o) false,[r]):=fun m p=>by
    rw[fm]
    simp only[V.cells,Nat.zero_add,sC,Nat.le_refl,zg,and_self,if_true,List.drop_zero]
    rw[List.take_of_length_le (by rw[sC];exact Nat.le_refl _)]
   exact ⟨[r],false,fun m p=>⟨e m p,e m p,e m p⟩⟩
theorem nX.outs {h h':af} {v:I} {o:List (Int × Bool)} (x:nX h h' v o):∃ids e,(∀m p,df ⟨h'.cells,h'.shut,m,p⟩ v=some (.sl (c3 o) e,ids)/\ib ⟨h'.cells,h'.shut,m,p⟩ v=some (.sl (c3 o) e,ids)/\iY ⟨h'.cells,h'.shut,m,p⟩ v=some (.sl (c3 o) e,ids))/\df h' v=some (.sl (c3 o) e,ids)/\ib h' v=some (.sl (c3 o) e,ids)/\iY h' v=some (.sl (c3 o) e,ids):=by
 obtain⟨ids,e,ay⟩:=x.out
 exact ⟨ids,e,ay,ay h'.next h'.aS⟩
def aZ (p:List Int):Nat:=p.foldr (fun x m=>max (aY x) m) 0
theorem l3 {L:Nat}:∀ {p:List Int},aZ p<=L↔∀x∈p,aY x<=L
 | []=>by simp[aZ]
 | x::p=>by
   have a6:=l3 (L:=L) (p:=p)
   simp only[aZ,List.foldr_cons,List.mem_cons,forall_eq_or_imp] at*
   rw[Nat.max_le,a6]
theorem qT:aY 0=0:=by simp[aY,eS]
theorem eg (p:List Int) (i:Nat):aY (p.getD i 0)<=aZ p:=by
 by_cases h:i<p.length
 · exact l3.1 (Nat.le_refl _) _ (by simp[List.getD_eq_getElem?_getD,h])
 · simp[List.getD_eq_getElem?_getD,show p.length<=i by omega,qT]
theorem ux {L:Nat} {p:List Int} (h:∀i,aY (p.getD i 0)<=L):aZ p<=L:=l3.2 fun x ae=>by
 obtain⟨i,ab,rfl⟩:=List.getElem_of_mem ae
 have:=h i
 rwa [show p.getD i 0=p[i] by simp[List.getD_eq_getElem?_getD,ab]] at this
end
section
set_option maxHeartbeats 8000000
open Go Go.Eng Go.RowKit
def kK (ys:Nat->Int × Bool) (n i:Nat):List (Int × Bool):=(List.range i).map ys++List.replicate (n - i) (0,true)
theorem Lb (ys:Nat->Int × Bool) {n i:Nat} (h:i<=n):(kK ys n i).length=n:=by simp[kK];omega
theorem Lc (ys:Nat->Int × Bool) (n:Nat):kK ys n 0=List.replicate n (0,true):=by simp[kK]
theorem Ld (ys:Nat->Int × Bool) (n:Nat):kK ys n n=(List.range n).map ys:=by simp[kK]
theorem Le (ys:Nat->Int × Bool) {n i:Nat} (h:i<n):(kK ys n i).set i (ys i)=kK ys n (i+1):=by
 obtain⟨m,hm⟩:∃m,n - i=m+1:=⟨n - i - 1,by omega⟩
 have Lf:n -(i+1)=m:=by omega
 rw[kK,kK,hm,Lf,List.range_succ,List.map_append,List.replicate_succ,List.append_assoc]
 rw[List.set_append_right _ _ (by simp)]
 simp
theorem VT:dT (0,true)= .agg [.bool false,.sl [] true]:=by
 simp only[dT,Int.natAbs_zero,eS,List.map_nil];rfl
theorem uy (n:Nat):List.replicate n (I.agg [.bool false,.sl [] true])=c3 (List.replicate n (0,true)):=by
 rw[c3,List.map_replicate,VT]
end
section
set_option maxHeartbeats 8000000
open Go Go.Eng Go.RowKit
attribute [local simp] aU.m aU.o aU.n aU.g eM dN cE ch cM evalOp.eq_1 evalOp.eq_2 evalOp.eq_3 evalOp.eq_4 evalOp.eq_5 evalOp.eq_6 evalOp.eq_7 evalOp.eq_8 evalOp.eq_9 evalOp.eq_10 evalOp.eq_11 evalOp.eq_12 evalOp.eq_13 evalOp.eq_14 evalOp.eq_15 evalOp.eq_16 evalOp.eq_17 evalOp.eq_18 evalOp.eq_19 evalOp.eq_20 evalOp.eq_21 evalOp.eq_22 evalOp.eq_23 evalOp.eq_24 evalOp.eq_25 evalOp.eq_27 evalOp.eq_28 evalOp.eq_29 hX aQ.ev cg an af.new ds I.cells I.bW I.dk I.dh fU fW fV fX fZ fY hh hi hj e7 e8 cut partOf bound elems hl hn ho hp hq hr hs ht hv hx hy hz fm hA hB hC hD hE hF hG hH hI hJ hK hL hM hN hO hP hQ hR hS hT hU hV hW dM dC dz eF f_ fz af.close af.set fB hY hZ h0 hk fA fy fa dP fj fL fk fl fM fN fO eC eD eE eB f' bD fJ ga fK gb gd eo gf ep gg gh gi e1 hg gj gk gl gm gn gp gq gr gu gv gw gx gy gz gA gB gC gD gE e_ gF gG gH gI gJ gK gL gM gN gO gP gQ gR gS gT
attribute [local simp high] hc hd hf gU gV gW gX gY gZ g0 g1 g2 g3 g4 g5 g6 g7 g8 g9 g_ g' ha hb
attribute [local simp] aD List.getElem?_cons_zero List.getElem?_cons_succ dc cf eY Nat.mod_eq_of_lt ig ih ij ik e2 il im iq
section
attribute [local irreducible] a7
attribute [local simp] c5 cZ ck jO
def zh (aD:af) (ys:Nat->Int × Bool) (n i:Nat) (s:aI):Prop:=∃q,s.F 5= .ref q 0 n n/\aD.next<=q/\iH s.h q (kK ys n i)/\Kept aD s.h
theorem zi {h g:af} (bV:∀j,h.next<=j->h.shut j=false) (K:Kept h g):∀j,g.next<=j->g.shut j=false:=fun j aA=>by
 rw[K.shut];exact bV j (Nat.le_trans K.next aA)
end
section
attribute [local irreducible] a7
attribute [local simp] c5 cZ ck
theorem VU (u v x y:Nat):((decide (u<x)=decide (v<y))->(u+x)*(v+y)+(if u<x then x - u else u - x)*(if v<y then y - v else v - y)=2*(u*v+x*y)/\(u+x)*(v+y) -(if u<x then x - u else u - x)*(if v<y then y - v else v - y)=2*(u*y+x*v))/\
 ((decide (u<x)≠decide (v<y))->(u+x)*(v+y) -(if u<x then x - u else u - x)*(if v<y then y - v else v - y)=2*(u*v+x*y)/\(u+x)*(v+y)+(if u<x then x - u else u - x)*(if v<y then y - v else v - y)=2*(u*y+x*v)):=by
 by_cases U:u<x<;>by_cases h2:v<y<;>simp only[U,h2,decide_true,decide_false,if_true,if_false,ne_eq,not_true,not_false_eq_true,false_implies,true_implies,and_true,true_and,Bool.true_eq_false,Bool.false_eq_true]
 · obtain⟨d,rfl⟩:∃d,x=u+d:=⟨x - u,by omega⟩
   obtain⟨e,rfl⟩:∃e,y=v+e:=⟨y - v,by omega⟩
   rw[Nat.add_sub_cancel_left,Nat.add_sub_cancel_left]
   exact ⟨by grind,Nat.sub_eq_of_eq_add (by grind)⟩
 · obtain⟨d,rfl⟩:∃d,x=u+d:=⟨x - u,by omega⟩
   obtain⟨e,rfl⟩:∃e,v=y+e:=⟨v - y,by omega⟩
   rw[Nat.add_sub_cancel_left,Nat.add_sub_cancel_left]
   exact ⟨Nat.sub_eq_of_eq_add (by grind),by grind⟩
 · obtain⟨d,rfl⟩:∃d,u=x+d:=⟨u - x,by omega⟩
   obtain⟨e,rfl⟩:∃e,y=v+e:=⟨y - v,by omega⟩
   rw[Nat.add_sub_cancel_left,Nat.add_sub_cancel_left]
   exact ⟨Nat.sub_eq_of_eq_add (by grind),by grind⟩
 · obtain⟨d,rfl⟩:∃d,u=x+d:=⟨u - x,by omega⟩
   obtain⟨e,rfl⟩:∃e,v=y+e:=⟨v - y,by omega⟩
   rw[Nat.add_sub_cancel_left,Nat.add_sub_cancel_left]
   exact ⟨by grind,Nat.sub_eq_of_eq_add (by grind)⟩
theorem VV (x0 x1 x2 y0 y1 dF:Nat):∃E O bu dn c2 cG b7 bX cW cS u:Nat,
 bu=(x0+x2+x1)*(y0+dF+y1)/\dn=l1 x0 x1 x2*l1 y0 y1 dF/\c2=(x0+(x1*2^1+x2*2^2))*(y0+(y1*2^1+dF*2^2))/\cG=x0*y0/\cS=x2*dF/\
 (decide (x0+x2<x1)=decide (y0+dF<y1)->bu+dn=E/\bu - dn=O)/\(decide (x0+x2<x1)≠decide (y0+dF<y1)->bu - dn=E/\bu+dn=O)/\
 E/2^1 -(cG+cS)=bX/\c2 -(cG+(bX*2^2+cS*2^4))=u/\(u/2^1 - O/2^1)%3=0/\(u/2^1 - O/2^1)/3=cW/\O/2^1 - cW=b7/\
 (∀x∈ [bu,dn,c2,E,O,cG,b7,bX,cW,cS,cG+cS,E/2^1,O/2^1,bX*2^2,cS*2^4,bX*2^2+cS*2^4,cG+(bX*2^2+cS*2^4),u,u/2^1,u/2^1 - O/2^1],x<=2*bu+c2)/\
 b7=x0*y1+x1*y0/\bX=x0*dF+x2*y0+x1*y1/\cW=x1*dF+x2*y1:=by
 obtain⟨U,h2⟩:=VU (x0+x2) (y0+dF) x1 y1
 obtain⟨cG,jE⟩:∃c,c=x0*y0:=⟨_,rfl⟩
 obtain⟨b7,qH⟩:∃c,c=x0*y1+x1*y0:=⟨_,rfl⟩
 obtain⟨bX,jD⟩:∃c,c=x0*dF+x2*y0+x1*y1:=⟨_,rfl⟩
 obtain⟨cW,uz⟩:∃c,c=x1*dF+x2*y1:=⟨_,rfl⟩
 obtain⟨cS,sD⟩:∃c,c=x2*dF:=⟨_,rfl⟩
 have VW:(x0+x2)*(y0+dF)+x1*y1=cG+bX+cS:=by rw[jE,jD,sD];grind
 have Bi:(x0+x2)*y1+x1*(y0+dF)=b7+cW:=by rw[qH,uz];grind
 have al:(x0+x2+x1)*(y0+dF+y1)=cG+b7+bX+cW+cS:=by rw[jE,qH,jD,uz,sD];grind
 have ao:(x0+(x1*2^1+x2*2^2))*(y0+(y1*2^1+dF*2^2))=cG+2*b7+4*bX+8*cW+16*cS:=by rw[jE,qH,jD,uz,sD];grind
 rw[VW,Bi,show (if x0+x2<x1 then x1 -(x0+x2) else x0+x2 - x1)=l1 x0 x1 x2 from rfl,show (if y0+dF<y1 then y1 -(y0+dF) else y0+dF - y1)=l1 y0 y1 dF from rfl,al] at U h2
 generalize l1 x0 x1 x2*l1 y0 y1 dF=dn at*
 have uu:dn<=cG+b7+bX+cW+cS\/cG+b7+bX+cW+cS<dn:=by omega
 refine⟨2*(cG+bX+cS),2*(b7+cW),_,dn,_,cG,b7,bX,cW,cS,2*(b7+4*cW),al.symm,rfl,ao.symm,jE,sD,U,h2,by omega,by omega,by omega,by omega,by omega,?_,qH,jD,uz⟩
 have uu:dn<=cG+b7+bX+cW+cS:=by
  by_cases h:decide (x0+x2<x1)=decide (y0+dF<y1)
  · have:=U h;omega
  · have:=h2 h;omega
 intro x ae
 simp only[List.mem_cons,List.not_mem_nil,or_false] at ae
 omega
theorem VX {E O bu dn c2 cG b7 bX cW cS u:Nat} (ar:(ad (2*bu+c2)).length<=1000000)
 (uA:∀x∈ [bu,dn,c2,E,O,cG,b7,bX,cW,cS,cG+cS,E/2^1,O/2^1,bX*2^2,cS*2^4,bX*2^2+cS*2^4,cG+(bX*2^2+cS*2^4),u,u/2^1,u/2^1 - O/2^1],x<=2*bu+c2)
 (h2:E/2^1 -(cG+cS)=bX) (hu:c2 -(cG+(bX*2^2+cS*2^4))=u) (DC:(u/2^1 - O/2^1)%3=0) (az:(u/2^1 - O/2^1)/3=cW) (U:O/2^1 - cW=b7):
 ∃v1 v2 kr v4 pH v6 qU qV oK:Nat,jv [ai bu,ai dn]=some (ai (bu+dn))/\kJ [ai bu,ai dn]=some (ai (bu - dn))/\l0 [ai E,aR 1]=some (ai v4)/\l0 [ai O,aR 1]=some (ai kr)/\jv [ai cG,ai cS]=some (ai oK)/\kJ [ai v4,ai oK]=some (ai bX)/\
  lC [ai bX,aR 2]=some (ai qU)/\lC [ai cS,aR 4]=some (ai qV)/\jv [ai qU,ai qV]=some (ai v6)/\jv [ai cG,ai v6]=some (ai pH)/\kJ [ai c2,ai pH]=some (ai u)/\l0 [ai u,aR 1]=some (ai v2)/\kJ [ai v2,ai kr]=some (ai v1)/\sy [ai v1]=some (ai cW)/\kJ [ai kr,ai cW]=some (ai b7):=by
 have sz:∀x,x∈ [bu,dn,c2,E,O,cG,b7,bX,cW,cS,cG+cS,E/2^1,O/2^1,bX*2^2,cS*2^4,bX*2^2+cS*2^4,cG+(bX*2^2+cS*2^4),u,u/2^1,u/2^1 - O/2^1]->∀n,1000000<=n->(ad x).length<=n:=fun x ae n aq=>Nat.le_trans (h_ (uA x ae)) (Nat.le_trans ar aq)
 have cb:∀x y,(∀n,1000000<=n->(ad x).length<=n)->(∀n,1000000<=n->(ad y).length<=n)->jv [ai x,ai y]=some (ai (x+y)):=fun x y ae aO=>mK (ae _ (by decide)) (aO _ (by decide))
 have le:∀x y,(∀n,1000000<=n->(ad x).length<=n)->(∀n,1000000<=n->(ad y).length<=n)->kJ [ai x,ai y]=some (ai (x - y)):=fun x y ae aO=>Dl (x,y) ⟨ae _ (by decide),aO _ (by decide)⟩ (by simp)
 have qW:∀x,(∀n,1000000<=n->(ad x).length<=n)->l0 [ai x,aR 1]=some (ai (x/2^1)):=fun x ae=>Kx (x,1) ⟨ae _ (by decide),show 1<=10000000000 by decide⟩ (by simp)
 have sl:∀x k,k<=4->(∀n,1000000<=n->(ad x).length<=n)->lC [ai x,aR k]=some (ai (x*2^k)):=fun x k ag ae=>sm (ae _ (by decide)) (by omega)
 have mQ:sy [ai (u/2^1 - O/2^1)]=some (ai ((u/2^1 - O/2^1)/3)):=U7 _ ⟨sz _ (by simp) _ (by decide),DC⟩ (by simp)
 rw[az] at mQ
 refine⟨u/2^1 - O/2^1,u/2^1,O/2^1,E/2^1,cG+(bX*2^2+cS*2^4),bX*2^2+cS*2^4,bX*2^2,cS*2^4,cG+cS,cb _ _ (sz _ (by simp)) (sz _ (by simp)),le _ _ (sz _ (by simp)) (sz _ (by simp)),qW _ (sz _ (by simp)),qW _ (sz _ (by simp)),cb _ _ (sz _ (by simp)) (sz _ (by simp)),?_,sl _ _ (by decide) (sz _ (by simp)),sl _ _ (by decide) (sz _ (by simp)),cb _ _ (sz _ (by simp)) (sz _ (by simp)),cb _ _ (sz _ (by simp)) (sz _ (by simp)),?_,qW _ (sz _ (by simp)),le _ _ (sz _ (by simp)) (sz _ (by simp)),mQ,?_⟩
 · have:=le (E/2^1) (cG+cS) (sz _ (by simp)) (sz _ (by simp));rwa [h2] at this
 · have:=le c2 (cG+(bX*2^2+cS*2^4)) (sz _ (by simp)) (sz _ (by simp));rwa [hu] at this
 · have:=le (O/2^1) cW (sz _ (by simp)) (sz _ (by simp));rwa [U] at this
def mR (k:Nat) (cs:List Nat):Nat->Nat
 | 0=>0
 | i+1=>mR k cs i+aB cs i*2^(32*k*i)
theorem VY (k x0 x1 x2 y0 y1 dF:Nat):mR k [x0*y0,x0*y1+x1*y0,x0*dF+x2*y0+x1*y1,x1*dF+x2*y1,x2*dF] 5=(x0+ah k*(x1+ah k*x2))*(y0+ah k*(y1+ah k*dF)):=by
 rw[kV]
 simp only[mR,Ct,yn]
 rw[Nat.mul_zero,Nat.pow_zero,Nat.mul_one (32*k),show 32*k*2=32*k+32*k by omega,show 32*k*3=32*k+32*k+32*k by omega,show 32*k*4=32*k+32*k+32*k+32*k by omega]
 simp only[Nat.pow_add]
 generalize 2^(32*k)=P
 grind
theorem DD:∀z w:Nat × Nat,(fun z:Nat × Nat=>[ai z.1,ai z.2]) z=(fun z:Nat × Nat=>[ai z.1,ai z.2]) w->(fun z:Nat × Nat=>ai (z.1*z.2)) z=(fun z:Nat × Nat=>ai (z.1*z.2)) w:=fun z w h=>by simp only at h|-;first|(simp only[List.cons.injEq,I.int.injEq,I.bool.injEq,I.sl.injEq,cD,cB,cO,cP,cK,bO,b2,cJ,bD,true_and,and_true] at h;simp[h];done)|(simp only[I.agg.injEq,List.cons.injEq,I.int.injEq,I.bool.injEq,I.sl.injEq,cD,cB,cO,cP,cK,bO,b2,cJ,bD,true_and,and_true] at h;simp[h])
noncomputable def wG:List I->Option I:=bl (fun z:Nat × Nat=>(ad z.1).length<=500000/\(ad z.2).length<=500000) (fun z:Nat × Nat=>[ai z.1,ai z.2]) (fun z:Nat × Nat=>ai (z.1*z.2))
theorem VZ (z:Nat × Nat) (h:(ad z.1).length<=500000/\(ad z.2).length<=500000) {args:List I} (he:args.map I.loose= [ai z.1,ai z.2]):wG args=some (ai (z.1*z.2)):=bC DD z h he
noncomputable def nY (N:Nat):List I->Option I:=bl (fun z:Nat × Nat=>((ad z.1).length<=500000/\(ad z.2).length<=500000)/\(max (ad z.1).length (ad z.2).length)<N) (fun z:Nat × Nat=>[ai z.1,ai z.2]) (fun z:Nat × Nat=>ai (z.1*z.2))
theorem wH {N:Nat} (z:Nat × Nat) (h:((ad z.1).length<=500000/\(ad z.2).length<=500000)/\(max (ad z.1).length (ad z.2).length)<N) {args:List I} (he:args.map I.loose= [ai z.1,ai z.2]):nY N args=some (ai (z.1*z.2)):=bC DD z h he
theorem V0 (h:∀N,aP Tryz.prog G 201 (nY N)->aP Tryz.prog G 201 (nY (N+1))):aP Tryz.prog G 201 wG:=H6 DD (fun z:Nat × Nat=>max (ad z.1).length (ad z.2).length) h
noncomputable def mS (N:Nat):FuncId->Option (List I->Option I):=cA [(201,nY N),(202,sw),(252,qP),(256,uo),(257,kJ),(258,sy),(174,jv),(172,lC),(173,l0)]
theorem V1 {N:Nat} (h:aP Tryz.prog G 201 (nY N)):∀f T,mS N f=some T->aP Tryz.prog G f T:=cH (by simp only[List.forall_mem_cons];exact ⟨h,KQ,KO,Ve,Dm,U8,t',yM,C4,fun _ h=>absurd h (by simp)⟩)
theorem Lg (N:Nat):mS N 201=some (nY N):=rfl
theorem Lh (N:Nat):mS N 202=some sw:=rfl
theorem Li (N:Nat):mS N 252=some qP:=rfl
theorem Lj (N:Nat):mS N 256=some uo:=rfl
theorem Lk (N:Nat):mS N 257=some kJ:=rfl
theorem Ll (N:Nat):mS N 258=some sy:=rfl
theorem Lm (N:Nat):mS N 174=some jv:=rfl
theorem Ln (N:Nat):mS N 172=some lC:=rfl
theorem Lo (N:Nat):mS N 173=some l0:=rfl
theorem Lp (N:Nat):mS N 255=none:=rfl
attribute [local simp] Lg Lh Li Lj Lk Ll Lm Ln Lo Lp
theorem Lq (N:Nat) (Y:List cF) (h:af) {a k n p q:Nat} (ag:h.cells p=some [aR k]) (aq:h.cells q=some [aR n]) (V2:p<h.next) (pz:q<h.next) (bV:h.shut h.next=false) (bF:(ad a).length<=500000) (oH:2*k<=n) (lD:n<=500000):
 eX G (aE Tryz.prog) (mS N) Y (.fn 255) [ai a,.ptr p 0 0,.ptr q 0 0] h=some (.agg [ai (a%ah k),ai (a%ah (2*k)/ah k),ai (a%ah n/ah (2*k))],⟨an (an h.cells h.next (some [.agg [.sl [] true,.sl [] true,.sl [] true]])) h.next (some [.agg [ai (a%ah k),ai (a%ah (2*k)/ah k),ai (a%ah n/ah (2*k))]]),h.shut,h.next+16,h.aS⟩):=by
 have bN:=wq (a,0,k) ⟨by simp only;omega,Nat.zero_le _,by simp only;omega⟩ (args:=[ai a,aR 0,aR k]) (by simp)
 have bd:=wq (a,k,2*k) ⟨by simp only;omega,by simp only;omega,by simp only;omega⟩ (args:=[ai a,aR k,aR (2*k)]) (by simp)
 have bs:=wq (a,2*k,n) ⟨by simp only;omega,by simp only;omega,by simp only;omega⟩ (args:=[ai a,aR (2*k),aR n]) (by simp)
 simp only[fp,Nat.div_one] at bN bd bs
 have bP:IntKind.i64.wrap (Z 2*Z k)=Z (2*k):=tL (by omega)
 generalize a%ah k=x0 at*
 generalize a%ah (2*k)/ah k=x1 at*
 generalize a%ah n/ah (2*k)=x2 at*
 generalize 2*k=pI at*
 obtain⟨v,h',e,rfl,rfl⟩:=j8 (Φ:=aE Tryz.prog) (G:=G) (tab:=mS N) (Y:=Y) (h:=h) (args:=[ai a,.ptr p 0 0,.ptr q 0 0]) (R:=fun v h'=>v= .agg [ai x0,ai x1,ai x2]/\h'=⟨an (an h.cells h.next (some [.agg [.sl [] true,.sl [] true,.sl [] true]])) h.next (some [.agg [ai x0,ai x1,ai x2]]),h.shut,h.next+16,h.aS⟩) I' (by
  unfold i255
  refine aL [0,1,2,4] fun F K=>?_
  obtain⟨f0,f1,f2,f4⟩:=K
  have H:=e3 ag aq bV bN bd (@bs) bP (@Nat.add_assoc)
  have K:=b4 f0 f1 f2 f4;clear f0 f1 f2 f4
  refine cI [0,1,2,4] fun F k=>?_;clear K H
  obtain⟨f0,f1,f2,f4⟩:=k
  try refine bU ?_
  simp[jI,f4])
 exact e
theorem Lr {k:Nat} (u v w:Nat) (hu:(ad u).length<=k) (av:(ad v).length<=k) (hw:(ad w).length<=k):(ad (u+w+v)).length<=k+2/\(ad (l1 u v w)).length<=k+2/\(ad (u+(v*2^1+w*2^2))).length<=k+3:=by
 have adG:(ad (2^1)).length<=1:=ct.2 (by rw[qE];decide)
 have adH:(ad (2^2)).length<=1:=ct.2 (by rw[qE];decide)
 have a1:=j' u w
 have eO:=j' (u+w) v
 have By:=kG v (2^1)
 have adI:=kG w (2^2)
 have adJ:=j' (v*2^1) (w*2^2)
 have adK:=j' u (v*2^1+w*2^2)
 have V3:l1 u v w<=u+w+v:=by unfold l1;split<;>omega
 have adL:=h_ V3
 omega
end
section
attribute [local irreducible] a7
attribute [local simp] c5 cZ ck Lg Lh Li Lj Lk Ll Lm Ln Lo Lp
def zj (k:Nat) (cs:List Nat) (i:Nat) (s:aI):Prop:=∃e,s.F 29=bY (ad (mR k cs i)) e
theorem V4 {k:Nat} {cs:List Nat} (aw:cs.length=5) (ag:k<=200000) (au:∀x∈cs,(ad x).length<=1000000):∀i,i<5->(∀e,jv [bY (ad (mR k cs i)) e,ai (aB cs i*2^(32*k*i))]=some (ai (mR k cs (i+1))))/\lC [ai (aB cs i),aR (32*k*i)]=some (ai (aB cs i*2^(32*k*i))):=by
 have aa:∀i,i<=5->(ad (mR k cs i)).length<=i*4000000:=by
  intro i
  induction i with
  | zero=>intro _;simp[mR,eS]
  | succ i a6=>
    intro ab
    have U:=a6 (by omega)
    have h2:=au _ (Cu (l:=cs) (i:=i) (by omega))
    have az:=kG (aB cs i) (2^(32*k*i))
    have aT:(ad (2^(32*k*i))).length<=k*i+1:=ct.2 (by rw[show 32*k*i=32*(k*i) by rw[Nat.mul_assoc],<-kV,dR];have:=ju (k*i);omega)
    have b9:=j' (mR k cs i) (aB cs i*2^(32*k*i))
    have ei:k*i<=200000*5:=Nat.mul_le_mul ag (by omega)
    show (ad (mR k cs i+aB cs i*2^(32*k*i))).length<=_
    omega
 intro i ab
 have U:=aa i (by omega)
 have h2:=au _ (Cu (l:=cs) (i:=i) (by omega))
 have az:=kG (aB cs i) (2^(32*k*i))
 have aT:(ad (2^(32*k*i))).length<=k*i+1:=ct.2 (by rw[show 32*k*i=32*(k*i) by rw[Nat.mul_assoc],<-kV,dR];have:=ju (k*i);omega)
 have ei:k*i<=200000*5:=Nat.mul_le_mul ag (by omega)
 have rK:32*k*i=32*(k*i):=Nat.mul_assoc ..
 exact ⟨fun e=>mK (by omega) (by omega),sm (by omega) (by omega)⟩
theorem V5:aP Tryz.prog G 201 wG:=by
 refine V0 fun N a6=>?_
 refine bB mixed (V1 a6) IX fun z ar=>?_
 obtain⟨a,b⟩:=z
 obtain⟨⟨bF,a'⟩,ix⟩:=ar
 simp only at bF a' ix|-
 obtain⟨L,bb⟩:∃L,L=(ad a).length:=⟨_,rfl⟩
 obtain⟨M,lb⟩:∃M,M=(ad b).length:=⟨_,rfl⟩
 obtain⟨n,aq⟩:∃n,n=max L M:=⟨_,rfl⟩
 have c1:=tS L M
 have en:=tT L M
 rw[<-aq] at c1
 rw[<-bb] at ix
 rw[<-lb] at ix
 have a4:a<ah n:=ct.1 (by omega)
 have bj:b<ah n:=ct.1 (by omega)
 by_cases pc:min L M<7
 · have t:=KP (a,b) ⟨by simp only;omega,by simp only;omega⟩ (args:=[ai a,ai b]) (by simp)
   simp only at t
   generalize a*b=c at*
   unfold i201
   refine aL [0,1,4,5,6,7,8,9,10,11,12,13,14,15,16,17,18,19,20,21,22,23,24,25,26,27,28,29,30,31,42,97,131,132,133,134] fun F K=>?_
   obtain⟨f0,f1,f4,f5,f6,f7,f8,f9,f10,f11,f12,f13,f14,f15,f16,f17,f18,f19,f20,f21,f22,f23,f24,f25,f26,f27,f28,f29,f30,f31,f42,f97,f131,f132,f133,f134⟩:=K
   have H:=dW bb.symm lb.symm c1 en pc t
   have K:=Ci f0 f1 f4 f5 f6 f7 f8 f9 f10 f11 f12 f13 f14 f15 f16 f17 f18 f19 f20 f21 f22 f23 f24 f25 f26 f27 f28 f29 f30 f31 f42 f97 f131 f132 f133 f134;clear f0 f1 f4 f5 f6 f7 f8 f9 f10 f11 f12 f13 f14 f15 f16 f17 f18 f19 f20 f21 f22 f23 f24 f25 f26 f27 f28 f29 f30 f31 f42 f97 f131 f132 f133 f134
   exact kT [0,1,4,5,6,7,8,9,10,11,12,13,14,15,16,17,18,19,20,21,22,23,24,25,26,27,28,29,30,31,42,97,131,132,133,134]
 · obtain⟨k,ag⟩:∃k,k=(n+2)/3:=⟨_,rfl⟩
   have oH:k+1<n:=by omega
   have jn:k<=200000:=by omega
   have zk:∀x,x<ah n->x=x%ah k+ah k*(x%ah (2*k)/ah k+ah k*(x%ah n/ah (2*k)))/\(ad (x%ah k)).length<=k/\(ad (x%ah (2*k)/ah k)).length<=k/\(ad (x%ah n/ah (2*k))).length<=k:=fun x ae=>by
    rw[Nat.mod_eq_of_lt ae]
    refine⟨?_,ct.2 (Nat.mod_lt _ (ju k)),ct.2 ?_,ct.2 ?_⟩
    · rw[show 2*k=k+k by omega,iE,<-Nat.div_div_eq_div_mul,Nat.mod_mul_right_div_self,Nat.mod_add_div,Nat.mod_add_div]
    · rw[show 2*k=k+k by omega,iE,Nat.mod_mul_right_div_self];exact Nat.mod_lt _ (ju k)
    · rw[Nat.div_lt_iff_lt_mul (ju _),<-iE]
      exact Nat.lt_of_lt_of_le ae (lW (by omega))
   have zl:=fun(h:af) p q U h2 az aT b9=>Lq N [] h (a:=a) (k:=k) (n:=n) (p:=p) (q:=q) U h2 az aT b9 (by omega) (by omega) (by omega)
   have zm:=fun(h:af) p q U h2 az aT b9=>Lq N [] h (a:=b) (k:=k) (n:=n) (p:=p) (q:=q) U h2 az aT b9 (by omega) (by omega) (by omega)
   have main:∃x0 x1 x2 y0 y1 dF a1 am eO b1 DE dL bu dn c2 cG b7 bX cW cS:Nat,∃wI wJ:Bool,a%ah k=x0/\a%ah (2*k)/ah k=x1/\a%ah n/ah (2*k)=x2/\b%ah k=y0/\b%ah (2*k)/ah k=y1/\b%ah n/ah (2*k)=dF/\
    uo [.agg [ai x0,ai x1,ai x2]]=some (.bo [ai a1,ai am,ai eO,.bool wI])/\uo [.agg [ai y0,ai y1,ai dF]]=some (.bo [ai b1,ai DE,ai dL,.bool wJ])/\
    nY N [ai x0,ai y0]=some (ai cG)/\nY N [ai x2,ai dF]=some (ai cS)/\nY N [ai a1,ai b1]=some (ai bu)/\nY N [ai am,ai DE]=some (ai dn)/\nY N [ai eO,ai dL]=some (ai c2)/\
    (∃E O u v1 v2 kr v4 pH v6 qU qV oK bP cy:Nat,jv [ai bu,ai dn]=some (ai bP)/\kJ [ai bu,ai dn]=some (ai cy)/\((wI=wJ/\bP=E/\cy=O)\/(wI≠wJ/\cy=E/\bP=O))/\l0 [ai E,aR 1]=some (ai v4)/\l0 [ai O,aR 1]=some (ai kr)/\jv [ai cG,ai cS]=some (ai oK)/\kJ [ai v4,ai oK]=some (ai bX)/\
      lC [ai bX,aR 2]=some (ai qU)/\lC [ai cS,aR 4]=some (ai qV)/\jv [ai qU,ai qV]=some (ai v6)/\jv [ai cG,ai v6]=some (ai pH)/\kJ [ai c2,ai pH]=some (ai u)/\l0 [ai u,aR 1]=some (ai v2)/\kJ [ai v2,ai kr]=some (ai v1)/\sy [ai v1]=some (ai cW)/\kJ [ai kr,ai cW]=some (ai b7))/\
    mR k [cG,b7,bX,cW,cS] 5=a*b/\∀x∈ [cG,b7,bX,cW,cS],(ad x).length<=1000000:=by
    obtain⟨DF,V6,V7,V8⟩:=zk a a4
    obtain⟨jP,V9,V_,V'⟩:=zk b bj
    clear zk zl zm c1 en bb lb
    generalize a%ah k=x0 at*
    generalize a%ah (2*k)/ah k=x1 at*
    generalize a%ah n/ah (2*k)=x2 at*
    generalize b%ah k=y0 at*
    generalize b%ah (2*k)/ah k=y1 at*
    generalize b%ah n/ah (2*k)=dF at*
    have fin:=VY k x0 x1 x2 y0 y1 dF
    rw[<-DF,<-jP] at fin
    obtain⟨E,O,bu,dn,c2,cG,b7,bX,cW,cS,u,yD,uu,mH,jE,sD,au,a_,h2,hu,DC,az,U,uA,bx,bZ,cX⟩:=VV x0 x1 x2 y0 y1 dF
    obtain⟨KR,adM,adN⟩:=Lr x0 x1 x2 V6 V7 V8
    obtain⟨KS,adO,adP⟩:=Lr y0 y1 dF V9 V_ V'
    have b1:=kG (x0+x2+x1) (y0+dF+y1)
    have kx:=kG (x0+(x1*2^1+x2*2^2)) (y0+(y1*2^1+dF*2^2))
    rw[<-yD] at b1
    rw[<-mH] at kx
    have two:(ad 2).length<=1:=ct.2 (by rw[qE];decide)
    have bE:=kG 2 bu
    have cp:=j' (2*bu) c2
    have ar:(ad (2*bu+c2)).length<=1000000:=by omega
    rw[<-jE,<-bx,<-bZ,<-cX,<-sD] at fin
    obtain⟨v1,v2,kr,v4,pH,v6,qU,qV,oK,c8,c_,h5⟩:=VX ar uA h2 hu DC az U
    refine⟨x0,x1,x2,y0,y1,dF,_,_,_,_,_,_,bu,dn,c2,cG,b7,bX,cW,cS,_,_,rfl,rfl,rfl,rfl,rfl,rfl,
     KW (x0,x1,x2) ⟨by show (ad x0).length<=_;omega,by show (ad x1).length<=_;omega,by show (ad x2).length<=_;omega⟩ (by simp),KW (y0,y1,dF) ⟨by show (ad y0).length<=_;omega,by show (ad y1).length<=_;omega,by show (ad dF).length<=_;omega⟩ (by simp),?_,?_,?_,?_,?_,⟨E,O,u,v1,v2,kr,v4,pH,v6,qU,qV,oK,_,_,c8,c_,?_,h5⟩,fin,fun x ae=>?_⟩
    · rw[jE];exact wH (x0,y0) ⟨⟨by simp only;omega,by simp only;omega⟩,by simp only;omega⟩ (by simp)
    · rw[sD];exact wH (x2,dF) ⟨⟨by simp only;omega,by simp only;omega⟩,by simp only;omega⟩ (by simp)
    · rw[yD];exact wH (x0+x2+x1,y0+dF+y1) ⟨⟨by simp only;omega,by simp only;omega⟩,by simp only;omega⟩ (by simp)
    · rw[uu];exact wH (l1 x0 x1 x2,l1 y0 y1 dF) ⟨⟨by simp only;omega,by simp only;omega⟩,by simp only;omega⟩ (by simp)
    · rw[mH];exact wH (x0+(x1*2^1+x2*2^2),y0+(y1*2^1+dF*2^2)) ⟨⟨by simp only;omega,by simp only;omega⟩,by simp only;omega⟩ (by simp)
    · by_cases h:decide (x0+x2<x1)=decide (y0+dF<y1)
      · exact .inl ⟨h,au h⟩
      · exact .inr ⟨h,a_ h⟩
    · have DG:x<=2*bu+c2:=uA x (by simp only[List.mem_cons,List.not_mem_nil,or_false] at ae|-;rcases ae with rfl|rfl|rfl|rfl|rfl<;>simp)
      exact Nat.le_trans (h_ DG) ar
   obtain⟨x0,x1,x2,y0,y1,dF,a1,am,eO,b1,DE,dL,bu,dn,c2,cG,b7,bX,cW,cS,wI,wJ,bz,al,ao,aV,bJ,eW,Ls,Lt,t0,t4,t1,t2,t3,⟨E,O,u,v1,v2,kr,v4,pH,v6,qU,qV,oK,bP,cy,s1,s2,Wa,kU,mo,uk,um,nP,nU,Lu,Lv,yJ,wh,Lw,Lx,Ly⟩,fin,c7⟩:=main
   have k_:=V4 (k:=k) (cs:=[cG,b7,bX,cW,cS]) rfl jn c7
   rw[bz,al,ao] at zl
   rw[aV,bJ,eW] at zm
   clear bz al ao aV bJ eW zk a4 bj c7
   have e9:(n+2)/3=k:=ag.symm
   have Lz:∀i,i<5->IntKind.i64.wrap (Z 32*Z k)=Z (32*k)/\IntKind.i64.wrap (Z (32*k)*Z i)=Z (32*k*i):=fun i ab=>⟨tL (by omega),tL (by have:32*k*i<=32*200000*5:=Nat.mul_le_mul (Nat.mul_le_mul_left 32 jn) (by omega);omega)⟩
   have DH:=zl ⟨an (an (an (an (fun _=>none) 6 (some [aR 0])) 6 (some [aR n])) 17 (some [aR 0])) 17 (some [aR k]),fun _=>false,31,fun _=>none⟩ 17 6 (by simp[an]) (by simp[an]) (by show 17<31;decide) (by show 6<31;decide) rfl
   have DI:=zm ⟨an (an (an (an (an (an (fun _=>none) 6 (some [aR 0])) 6 (some [aR n])) 17 (some [aR 0])) 17 (some [aR k])) 31 (some [.agg [.sl [] true,.sl [] true,.sl [] true]])) 31 (some [.agg [ai x0,ai x1,ai x2]]),fun _=>false,47,fun _=>none⟩ 17 6 (by simp[an]) (by simp[an]) (by show 17<47;decide) (by show 6<47;decide) rfl
   dsimp only at DH DI
   clear zl zm
   rw[<-fin]
   unfold i201
   rcases Wa with⟨U,h2,az⟩|⟨U,h2,az⟩
   · subst U h2 az
     refine aL [0,1,4,5,6,7,8,9,10,11,12,13,14,15,16,17,18,19,20,21,22,23,24,25,26,27,28,29,30,31,42,97,131,132,133,134] fun F K=>?_
     obtain⟨f0,f1,f4,f5,f6,f7,f8,f9,f10,f11,f12,f13,f14,f15,f16,f17,f18,f19,f20,f21,f22,f23,f24,f25,f26,f27,f28,f29,f30,f31,f42,f97,f131,f132,f133,f134⟩:=K
     have H:=Rt bb.symm lb.symm c1 en pc e9 DH DI Ls Lt t0 t4 t1 t2 t3 s1 s2 kU mo uk um nP nU Lu Lv yJ wh Lw Lx Ly (@Dq) (@Dr) (@Ds)
     have K:=Ci f0 f1 f4 f5 f6 f7 f8 f9 f10 f11 f12 f13 f14 f15 f16 f17 f18 f19 f20 f21 f22 f23 f24 f25 f26 f27 f28 f29 f30 f31 f42 f97 f131 f132 f133 f134;clear f0 f1 f4 f5 f6 f7 f8 f9 f10 f11 f12 f13 f14 f15 f16 f17 f18 f19 f20 f21 f22 f23 f24 f25 f26 f27 f28 f29 f30 f31 f42 f97 f131 f132 f133 f134
     refine cI [0,1,4,5,6,7,8,9,10,11,12,13,14,15,16,17,18,19,20,21,22,23,24,25,26,27,28,29,30,31,42,97,131,132,133,134] fun F k=>?_;clear K H
     obtain⟨f0,f1,f4,f5,f6,f7,f8,f9,f10,f11,f12,f13,f14,f15,f16,f17,f18,f19,f20,f21,f22,f23,f24,f25,f26,f27,f28,f29,f30,f31,f42,f97,f131,f132,f133,f134⟩:=k
     generalize DJ: [ai cG,ai b7,ai bX,ai cW,ai cS]=DK at*
     have vB:∀i,i<5->DK[i]? =some (ai (aB [cG,b7,bX,cW,cS] i)):=fun i ab=>by
      rw[<-DJ]
      rcases show i=0\/i=1\/i=2\/i=3\/i=4 by omega with rfl|rfl|rfl|rfl|rfl<;>rfl
     generalize pf: [cG,b7,bX,cW,cS]=cs at*
     refine iz 5 (fun i s=>zj k cs i s/\s.F 133=aR i/\s.h.cells 17=some [aR k]) (zj k cs 5) (fun _=>False) ?_ ?_ ?_ (fun _ _ h=>h.elim)
     · exact ⟨⟨true,by rw[mR,eS];exact f29⟩,f133,by simp[an]⟩
     · rintro i s ab sE ⟨⟨e,sF⟩,DL,DM⟩
       have ag:=sE
       replace f6:=(ag 6 rfl).trans f6;replace f131:=(ag 131 rfl).trans f131;replace f132:=(ag 132 rfl).trans f132
       clear f29 f133 sE
       have f29:=sF
       have f133:=DL
       have K:=bw f6 f29 f131 f132 f133;clear f6 f29 f131 f132 f133
       refine bL [6,29,30,31,131,132,133,134] fun F k=>?_;clear K
       obtain⟨f6,f29,f30,f31,f131,f132,f133,f134⟩:=k
       by_cases b9:i<5
       · have sG:(Z i<(5:Int))=True:=eq_true (by simp only[Z];omega)
         have ge:=vB i b9
         obtain⟨cc,ed⟩:=k_ i b9
         have cc:=cc e
         obtain⟨ll,kY⟩:=Lz i b9
         have DN:IntKind.i64.wrap (Z i+Z 1)=Z (i+1):=dc (by omega)
         generalize aB cs i=ci at*
         generalize 32*k*i=DO at*
         generalize ci*2^DO=Wb at*
         have H:=h7 sG ge cc ed ll kY DM b9 DN
         have K:=e3 f6 f29 f30 f31 f131 f132 f133 f134;clear f6 f29 f30 f31 f131 f132 f133 f134
         refine cI [6,29,30,31,131,132,133,134] fun F k=>?_;clear K H
         obtain⟨f6,f29,f30,f31,f131,f132,f133,f134⟩:=k
         exact ⟨false,f29⟩
       · have sG:(Z i<(5:Int))=False:=eq_false (by simp only[Z];omega)
         obtain rfl:i=5:=by omega
         have H:=sG
         have K:=e3 f6 f29 f30 f31 f131 f132 f133 f134;clear f6 f29 f30 f31 f131 f132 f133 f134
         refine cI [6,29,30,31,131,132,133,134] fun F k=>?_;clear K H
         obtain⟨f6,f29,f30,f31,f131,f132,f133,f134⟩:=k
         exact ⟨e,f29⟩
     · rintro s sE ⟨e,sF⟩
       clear f29 f133
       have f29:=sF
       have K:=f29;clear f29
       refine bL [4,29] fun F k=>?_;clear K
       obtain⟨f4,f29⟩:=k
       have H:=trivial
       have K:=bA f4 f29;clear f4 f29
       exact kT [4,29]
   · subst h2 az
     have aa:(wI == wJ)=false:=by simpa using U
     refine aL [0,1,4,5,6,7,8,9,10,11,12,13,14,15,16,17,18,19,20,21,22,23,24,25,26,27,28,29,30,31,42,97,131,132,133,134] fun F K=>?_
     obtain⟨f0,f1,f4,f5,f6,f7,f8,f9,f10,f11,f12,f13,f14,f15,f16,f17,f18,f19,f20,f21,f22,f23,f24,f25,f26,f27,f28,f29,f30,f31,f42,f97,f131,f132,f133,f134⟩:=K
     have H:=yj bb.symm lb.symm c1 en pc aa e9 DH DI Ls Lt t0 t4 t1 t2 t3 s1 s2 kU mo uk um nP nU Lu Lv yJ wh Lw Lx Ly (@Dq) (@Dr) (@Ds)
     have K:=Ci f0 f1 f4 f5 f6 f7 f8 f9 f10 f11 f12 f13 f14 f15 f16 f17 f18 f19 f20 f21 f22 f23 f24 f25 f26 f27 f28 f29 f30 f31 f42 f97 f131 f132 f133 f134;clear f0 f1 f4 f5 f6 f7 f8 f9 f10 f11 f12 f13 f14 f15 f16 f17 f18 f19 f20 f21 f22 f23 f24 f25 f26 f27 f28 f29 f30 f31 f42 f97 f131 f132 f133 f134
     refine cI [0,1,4,5,6,7,8,9,10,11,12,13,14,15,16,17,18,19,20,21,22,23,24,25,26,27,28,29,30,31,42,97,131,132,133,134] fun F k=>?_;clear K H
     obtain⟨f0,f1,f4,f5,f6,f7,f8,f9,f10,f11,f12,f13,f14,f15,f16,f17,f18,f19,f20,f21,f22,f23,f24,f25,f26,f27,f28,f29,f30,f31,f42,f97,f131,f132,f133,f134⟩:=k
     generalize DJ: [ai cG,ai b7,ai bX,ai cW,ai cS]=DK at*
     have vB:∀i,i<5->DK[i]? =some (ai (aB [cG,b7,bX,cW,cS] i)):=fun i ab=>by
      rw[<-DJ]
      rcases show i=0\/i=1\/i=2\/i=3\/i=4 by omega with rfl|rfl|rfl|rfl|rfl<;>rfl
     generalize pf: [cG,b7,bX,cW,cS]=cs at*
     refine iz 5 (fun i s=>zj k cs i s/\s.F 133=aR i/\s.h.cells 17=some [aR k]) (zj k cs 5) (fun _=>False) ?_ ?_ ?_ (fun _ _ h=>h.elim)
     · exact ⟨⟨true,by rw[mR,eS];exact f29⟩,f133,by simp[an]⟩
     · rintro i s ab sE ⟨⟨e,sF⟩,DL,DM⟩
       have ag:=sE
       replace f6:=(ag 6 rfl).trans f6;replace f131:=(ag 131 rfl).trans f131;replace f132:=(ag 132 rfl).trans f132
       clear f29 f133 sE
       have f29:=sF
       have f133:=DL
       have K:=bw f6 f29 f131 f132 f133;clear f6 f29 f131 f132 f133
       refine bL [6,29,30,31,131,132,133,134] fun F k=>?_;clear K
       obtain⟨f6,f29,f30,f31,f131,f132,f133,f134⟩:=k
       by_cases b9:i<5
       · have sG:(Z i<(5:Int))=True:=eq_true (by simp only[Z];omega)
         have ge:=vB i b9
         obtain⟨cc,ed⟩:=k_ i b9
         have cc:=cc e
         obtain⟨ll,kY⟩:=Lz i b9
         have DN:IntKind.i64.wrap (Z i+Z 1)=Z (i+1):=dc (by omega)
         generalize aB cs i=ci at*
         generalize 32*k*i=DO at*
         generalize ci*2^DO=Wb at*
         have H:=h7 sG ge cc ed ll kY DM b9 DN
         have K:=e3 f6 f29 f30 f31 f131 f132 f133 f134;clear f6 f29 f30 f31 f131 f132 f133 f134
         refine cI [6,29,30,31,131,132,133,134] fun F k=>?_;clear K H
         obtain⟨f6,f29,f30,f31,f131,f132,f133,f134⟩:=k
         exact ⟨false,f29⟩
       · have sG:(Z i<(5:Int))=False:=eq_false (by simp only[Z];omega)
         obtain rfl:i=5:=by omega
         have H:=sG
         have K:=e3 f6 f29 f30 f31 f131 f132 f133 f134;clear f6 f29 f30 f31 f131 f132 f133 f134
         refine cI [6,29,30,31,131,132,133,134] fun F k=>?_;clear K H
         obtain⟨f6,f29,f30,f31,f131,f132,f133,f134⟩:=k
         exact ⟨e,f29⟩
     · rintro s sE ⟨e,sF⟩
       clear f29 f133
       have f29:=sF
       have K:=f29;clear f29
       refine bL [4,29] fun F k=>?_;clear K
       obtain⟨f4,f29⟩:=k
       have H:=trivial
       have K:=bA f4 f29;clear f4 f29
       exact kT [4,29]
end
section
attribute [local irreducible] a7
attribute [local simp] c5 cZ ck
noncomputable def wK:FuncId->Option (List I->Option I):=cA [(203,ui),(202,sw),(201,wG)]
theorem Wc:∀f T,wK f=some T->aP Tryz.prog G f T:=cH (by simp only[List.forall_mem_cons];exact ⟨KM,KQ,V5,fun _ h=>absurd h (by simp)⟩)
theorem Wd:wK 203=some ui:=rfl
theorem We:wK 202=some sw:=rfl
theorem Wf:wK 201=some wG:=rfl
theorem Wg:wK 200=none:=rfl
attribute [local simp] Wd We Wf Wg
noncomputable def uB:List I->Option I:=bl (fun z:Nat × Nat=>(ad z.1).length<=500000/\(ad z.2).length<=500000/\min (ad z.1).length (ad z.2).length<48) (fun z=>[ai z.1,ai z.2]) (fun z=>ai (z.1*z.2))
theorem zn (z:Nat × Nat) (h:(ad z.1).length<=500000/\(ad z.2).length<=500000/\min (ad z.1).length (ad z.2).length<48) {args:List I} (he:args.map I.loose= [ai z.1,ai z.2]):uB args=some (ai (z.1*z.2)):=bC (fun z w h=>by simp only[List.cons.injEq,I.int.injEq,I.bool.injEq,I.sl.injEq,cD,cB,cO,cP,cK,bO,b2,cJ,bD,true_and,and_true] at h;simp[h]) z h he
theorem LA:aP Tryz.prog G 137 uB:=by
 refine bB mixed Wc Iz fun z ar=>?_
 obtain⟨a,b⟩:=z
 obtain⟨bF,a',k8⟩:=ar
 simp only at bF a' k8|-
 have t1:=KL (a,b) ⟨by simp only;omega,by simp only;omega⟩ (args:=[ai a,ai b]) (by simp)
 have t2:=KP (a,b) ⟨by simp only;omega,by simp only;omega⟩ (args:=[ai a,ai b]) (by simp)
 have t3:=VZ (a,b) ⟨bF,a'⟩ (args:=[ai a,ai b]) (by simp)
 simp only at t1 t2 t3
 have m:=tT (ad a).length (ad b).length
 generalize min (ad a).length (ad b).length=k at*
 generalize a*b=c at*
 obtain⟨W,ly⟩:∃W:List I,W= [.agg [.int .i64 (Z 48),.fn 200 [] []],.agg [.int .i64 (Z 14),.fn 201 [] []],.agg [.int .i64 (Z 8),.fn 202 [] []]]:=⟨_,rfl⟩
 have se:W[0]? =some (.agg [.int .i64 (Z 48),.fn 200 [] []]):=by rw[ly];rfl
 have bE:W[1]? =some (.agg [.int .i64 (Z 14),.fn 201 [] []]):=by rw[ly];rfl
 have cp:W[2]? =some (.agg [.int .i64 (Z 8),.fn 202 [] []]):=by rw[ly];rfl
 unfold i137
 refine aL [0,1,4,6,10,11,12,13,23] fun F K=>?_
 obtain⟨f0,f1,f4,f6,f10,f11,f12,f13,f23⟩:=K
 have H:=m
 have K:=h7 f0 f1 f4 f6 f10 f11 f12 f13 f23;clear f0 f1 f4 f6 f10 f11 f12 f13 f23
 refine bH [0,1,4,6,10,11,12,13,23] fun F k=>?_;clear K H
 obtain⟨f0,f1,f4,f6,f10,f11,f12,f13,f23⟩:=k
 have LB:F 10= .sl W true:=by rw[f10,ly]
 have LC:F 11=aR 3:=f11
 clear f10 f11
 have f10:=LB
 have f11:=LC
 clear LB LC ly
 refine iz 3 (fun i s=>s.F 12=aR i/\(∀j,s.h.shut j=false)/\(0<i->k<48)/\(1<i->k<14)/\(2<i->k<8)) (fun s=>True) (fun s=>s.F 4=ai c) ?_ ?_ ?_ ?_
 · exact ⟨f12,fun _=>rfl,by omega,by omega,by omega⟩
 · rintro i s ab ag ⟨nb,bV,U,h2,az⟩
   replace f0:=(ag 0 rfl).trans f0;replace f1:=(ag 1 rfl).trans f1;replace f10:=(ag 10 rfl).trans f10;replace f11:=(ag 11 rfl).trans f11
   clear f12
   have f12:=nb
   have K:=bw f0 f1 f10 f11 f12;clear f0 f1 f10 f11 f12
   refine bL [0,1,4,6,10,11,12,13,23] fun F k=>?_;clear K
   obtain⟨f0,f1,f4,f6,f10,f11,f12,f13,f23⟩:=k
   rcases show i=0\/i=1\/i=2\/i=3 by omega with rfl|rfl|rfl|rfl
   · skip
     have H:=b4 bV se m k8
     have K:=h7 f0 f1 f4 f6 f10 f11 f12 f13 f23;clear f0 f1 f4 f6 f10 f11 f12 f13 f23
     exact a3 [0,1,4,6,10,11,12,13,23]
   · by_cases qS:k<14
     · skip
       have H:=b4 bV bE m qS
       have K:=h7 f0 f1 f4 f6 f10 f11 f12 f13 f23;clear f0 f1 f4 f6 f10 f11 f12 f13 f23
       exact a3 [0,1,4,6,10,11,12,13,23]
     · skip
       have H:=bw bV bE m qS t3
       have K:=h7 f0 f1 f4 f6 f10 f11 f12 f13 f23;clear f0 f1 f4 f6 f10 f11 f12 f13 f23
       exact a3 [0,1,4,6,10,11,12,13,23]
   · by_cases LD:k<8
     · skip
       have H:=b4 bV cp m LD
       have K:=h7 f0 f1 f4 f6 f10 f11 f12 f13 f23;clear f0 f1 f4 f6 f10 f11 f12 f13 f23
       exact a3 [0,1,4,6,10,11,12,13,23]
     · skip
       have H:=bw bV cp m LD t2
       have K:=h7 f0 f1 f4 f6 f10 f11 f12 f13 f23;clear f0 f1 f4 f6 f10 f11 f12 f13 f23
       exact a3 [0,1,4,6,10,11,12,13,23]
   · skip
     have H:=trivial
     have K:=h7 f0 f1 f4 f6 f10 f11 f12 f13 f23;clear f0 f1 f4 f6 f10 f11 f12 f13 f23
     exact a3 [0,1,4,6,10,11,12,13,23]
 · rintro s ag -
   replace f0:=(ag 0 rfl).trans f0;replace f1:=(ag 1 rfl).trans f1
   clear f12
   have K:=bA f0 f1;clear f0 f1
   refine bL [0,1,4] fun F k=>?_;clear K
   obtain⟨f0,f1,f4⟩:=k
   have H:=t1
   have K:=bt f0 f1 f4;clear f0 f1 f4
   exact a3 [0,1,4]
 · rintro s ag aT
   simp[aT]
end
section
attribute [local irreducible] a7
attribute [local simp] c5 cZ ck
noncomputable def LF:FuncId->Option (List I->Option I):=cA [(137,uB)]
theorem Wh:∀f T,LF f=some T->aP Tryz.prog G f T:=cH (by simp only[List.forall_mem_cons];exact ⟨LA,fun _ h=>absurd h (by simp)⟩)
theorem Wi:LF 137=some uB:=rfl
attribute [local simp] Wi
theorem Wj {x y:Nat} (ae:x≠0) (aO:y≠0):(ad x).length+(ad y).length<=(ad (x*y)).length+1:=by
 have U:=lz.2 ae
 have h2:=lz.2 aO
 have az:ah ((ad x).length - 1)<=x:=Cx.1 (by omega)
 have aT:ah ((ad y).length - 1)<=y:=Cx.1 (by omega)
 have b9:=Nat.mul_le_mul az aT
 rw[<-iE] at b9
 have:=Cx.2 b9
 omega
theorem LG {x y R:Nat} (h:x*y<=R) (ee:(ad R).length<=94):min (ad x).length (ad y).length<48:=by
 by_cases ae:x=0
 · subst ae;rw[eS];simp
 by_cases aO:y=0
 · subst aO;rw[eS];simp
 have U:=Wj ae aO
 have h2:=h_ h
 omega
def LH (a n m:Nat) (s:aI):Prop:=∃o b e,o*b^m=a^n/\(ad o).length<=94/\(ad b).length<=94/\(a=0->b=0)/\s.F 5=bY (ad o) e/\s.F 0=ai b/\s.F 1=aR m
theorem Wk {o b m R:Nat} (h:o*b^m=R) (hm:m%2=1):(o*b)*(b*b)^(m/2)=R:=by
 have e:m=2*(m/2)+1:=by omega
 rw[<-h]
 generalize m/2=k at*
 subst e
 rw[Nat.pow_succ,Nat.pow_mul,Nat.pow_two,Nat.mul_assoc,Nat.mul_comm b]
theorem Wl {o b m R:Nat} (h:o*b^m=R) (hm:m%2=0):o*(b*b)^(m/2)=R:=by
 have e:m=2*(m/2):=by omega
 rw[<-h]
 generalize m/2=k at*
 subst e
 rw[Nat.pow_mul,Nat.pow_two]
theorem LI {x y R:Nat} (h:x*y=R) (ee:R≠0):x<=R:=by
 rw[<-h];exact Nat.le_mul_of_pos_right _ (Nat.pos_of_ne_zero fun aD=>ee (by rw[<-h,aD,Nat.mul_zero]))
theorem LJ {a n:Nat} (h:a^n=0):a=0:=Decidable.byContradiction fun aK=>absurd h (Nat.ne_of_gt (Nat.pow_pos (Nat.pos_of_ne_zero aK)))
noncomputable def DP:List I->Option I:=bl (fun z:Nat × Nat=>(ad z.1).length<=94/\z.2<9223372036854775808/\(ad (z.1^z.2)).length<=94) (fun z=>[ai z.1,aR z.2]) (fun z=>ai (z.1^z.2))
theorem Wm:aP Tryz.prog G 152 DP:=by
 refine bB mixed Wh IH fun z ar=>?_
 obtain⟨a,n⟩:=z
 obtain⟨bF,aq,tX⟩:=ar
 simp only at bF aq tX|-
 unfold i152
 refine aL [0,1,4,5,8,13,18] fun F K=>?_
 obtain⟨f0,f1,f4,f5,f8,f13,f18⟩:=K
 have H:=trivial
 have K:=dq f0 f1 f4 f5 f8 f13 f18;clear f0 f1 f4 f5 f8 f13 f18
 refine bH [0,1,4,5,8,13,18] fun F k=>?_;clear K H
 obtain⟨f0,f1,f4,f5,f8,f13,f18⟩:=k
 refine mF (fun m s=>m<9223372036854775808/\LH a n m s) (LH a n 0) (fun _=>False) n ?_ ?_ ?_ (fun _ _ h=>h.elim)
 · exact ⟨aq,1,a,true,Nat.one_mul _,by rw[nL];decide,bF,fun h=>h,by show F 5=_;rw[f5,nL];rfl,f0,f1⟩
 · rintro m s ag ⟨hm,o,b,e,av,b',a',ie,fr,se,bE⟩
   clear f0 f1 f5
   have f0:=se
   have f1:=bE
   have f5:=fr
   have K:=bt f0 f1 f5;clear f0 f1 f5
   refine bL [0,1,5,8,13,18] fun F k=>?_;clear K
   obtain⟨f0,f1,f5,f8,f13,f18⟩:=k
   have DQ:(m&&&1)=m%2:=Nat.and_one_is_mod m
   have bV:min 1 64=1:=by decide
   by_cases nO:m=0
   · subst nO
     have H:=trivial
     have K:=dW f0 f1 f5 f8 f13 f18;clear f0 f1 f5 f8 f13 f18
     refine bH [0,1,5,8,13,18] fun F k=>?_;clear K H
     obtain⟨f0,f1,f5,f8,f13,f18⟩:=k
     exact ⟨o,b,e,av,b',a',ie,f5,f0,f1⟩
   · have qX:0<m:=by omega
     have vd:∀R,o*b^m=R->R≠0->1<m->b*b<=R:=fun R h ee kZ=>by
      have aa:b≠0:=fun aD=>ee (by rw[<-h,aD,Nat.zero_pow (by omega),Nat.mul_zero])
      have U:b^m<=R:=by rw[Nat.mul_comm] at h;exact LI h ee
      have h2:b^2<=b^m:=Nat.pow_le_pow_right (by omega) kZ
      rw[Nat.pow_two] at h2
      omega
     have kX:1<m->min (ad b).length (ad b).length<48/\(ad (b*b)).length<=94:=fun kZ=>by
      by_cases ee:a^n=0
      · have:=ie (LJ ee)
        subst this
        rw[Nat.zero_mul,eS];simp
      · have:=vd _ av ee kZ
        exact ⟨LG this tX,Nat.le_trans (h_ this) tX⟩
     by_cases LK:m%2=1
     · have zo:=Wk av LK
       have DR:min (ad o).length (ad b).length<48/\(ad (o*b)).length<=94:=by
        by_cases ee:a^n=0
        · have:=ie (LJ ee)
          subst this
          rw[Nat.mul_zero,eS];simp
        · have:=LI zo ee
          exact ⟨LG this tX,Nat.le_trans (h_ this) tX⟩
       have t1:=zn (o,b) ⟨by simp only;omega,by simp only;omega,DR.1⟩ (args:=[bY (ad o) e,ai b]) (by simp)
       simp only at t1
       by_cases kZ:1<m
       · have t2:=zn (b,b) ⟨by simp only;omega,by simp only;omega,(kX kZ).1⟩ (args:=[ai b,ai b]) (by simp)
         have c8:=(kX kZ).2
         simp only at t2
         generalize LL:o*b=DS at*
         generalize DT:b*b=dL at*
         have H:=dq qX DQ LK kZ bV t1 t2
         have K:=dW f0 f1 f5 f8 f13 f18;clear f0 f1 f5 f8 f13 f18
         refine bH [0,1,5,8,13,18] fun F k=>?_;clear K H
         obtain⟨f0,f1,f5,f8,f13,f18⟩:=k
         exact ⟨m/2,by omega,by omega,DS,dL,false,zo,DR.2,c8,fun h=>by rw[<-DT,ie h],f5,f0,rfl⟩
       · have Wn:m=1:=by omega
         subst Wn
         generalize LL:o*b=DS at*
         have H:=bt DQ bV t1
         have K:=dW f0 f1 f5 f8 f13 f18;clear f0 f1 f5 f8 f13 f18
         refine bH [0,1,5,8,13,18] fun F k=>?_;clear K H
         obtain⟨f0,f1,f5,f8,f13,f18⟩:=k
         exact ⟨DS,b,false,by rw[<-LL,Nat.pow_zero,Nat.mul_one];rw[Nat.pow_one] at av;exact av,DR.2,a',ie,f5,f0,rfl⟩
     · have LM:m%2=0:=by omega
       have kZ:1<m:=by omega
       have zo:=Wl av LM
       have t2:=zn (b,b) ⟨by simp only;omega,by simp only;omega,(kX kZ).1⟩ (args:=[ai b,ai b]) (by simp)
       have c8:=(kX kZ).2
       simp only at t2
       generalize DT:b*b=dL at*
       have H:=dW qX DQ LM kZ bV t2
       have K:=dW f0 f1 f5 f8 f13 f18;clear f0 f1 f5 f8 f13 f18
       refine bH [0,1,5,8,13,18] fun F k=>?_;clear K H
       obtain⟨f0,f1,f5,f8,f13,f18⟩:=k
       exact ⟨m/2,by omega,by omega,o,dL,e,zo,b',c8,fun h=>by rw[<-DT,ie h],f5,f0,rfl⟩
 · rintro s ag ⟨o,b,e,av,b',a',ie,fr,se,bE⟩
   rw[Nat.pow_zero,Nat.mul_one] at av
   subst av
   clear f0 f1 f5
   have f5:=fr
   have K:=f5;clear f5
   refine bL [4,5] fun F k=>?_;clear K
   obtain⟨f4,f5⟩:=k
   generalize a^n=r at*
   have H:=trivial
   have K:=bA f4 f5;clear f4 f5
   exact a3 [4,5]
end
section
attribute [local irreducible] a7
attribute [local simp] c5 cZ ck
noncomputable def zp:FuncId->Option (List I->Option I):=cA [(137,uB),(152,DP),(84,nT)]
theorem Wo:∀f T,zp f=some T->aP Tryz.prog G f T:=cH (by simp only[List.forall_mem_cons];exact ⟨LA,Wm,yV,fun _ h=>absurd h (by simp)⟩)
theorem Wp:zp 137=some uB:=rfl
theorem Wq:zp 152=some DP:=rfl
theorem Wr:zp 84=some nT:=rfl
attribute [local simp] Wp Wq Wr
noncomputable def qY:List I->Option I:=bl (fun z:Int × Int=>aY z.1<=500000/\aY z.2<=500000/\min (aY z.1) (aY z.2)<48) (fun z=>[ax z.1,ax z.2]) (fun z=>ax (z.1*z.2))
theorem wL (z:Int × Int) (h:aY z.1<=500000/\aY z.2<=500000/\min (aY z.1) (aY z.2)<48) {args:List I} (he:args.map I.loose= [ax z.1,ax z.2]):qY args=some (ax (z.1*z.2)):=bC (fun z w h=>by simp only[List.cons.injEq,I.int.injEq,I.bool.injEq,I.sl.injEq,cD,cB,cO,cP,cK,bO,b2,cJ,bD,true_and,and_true] at h;simp[h]) z h he
theorem DU:aP Tryz.prog G 52 qY:=by
 refine bB mixed Wo H8 fun z ar=>?_
 obtain⟨a,b⟩:=z
 obtain⟨aK,aa,hm⟩:=ar
 simp only[aY] at aK aa hm|-
 have t1:=zn (a.natAbs,b.natAbs) ⟨aK,aa,hm⟩ (args:=[ai a.natAbs,ai b.natAbs]) (by simp)
 have aw:=kG a.natAbs b.natAbs
 have t2:=m' (b:=bc a != bc b) (n:=a.natAbs*b.natAbs) (by omega)
 rw[K4] at t2
 simp only at t1
 generalize a.natAbs*b.natAbs=m at*
 generalize a*b=c at*
 unfold i52
 cases a4:bc a<;>cases bj:bc b<;>rw[a4,bj] at t2<;>simp only[bne,beq_self_eq_true,Bool.not_true,Bool.not_false,show (false == true)=false from rfl,show (true == false)=false from rfl] at t2
 · skip
   refine aL [0,1,2,3,4] fun F K=>?_
   obtain⟨f0,f1,f2,f3,f4⟩:=K
   have H:=b4 a4 bj t1 t2
   have K:=bw f0 f1 f2 f3 f4;clear f0 f1 f2 f3 f4
   exact a3 [0,1,2,3,4]
 · skip
   refine aL [0,1,2,3,4] fun F K=>?_
   obtain⟨f0,f1,f2,f3,f4⟩:=K
   have H:=b4 a4 bj t1 t2
   have K:=bw f0 f1 f2 f3 f4;clear f0 f1 f2 f3 f4
   exact a3 [0,1,2,3,4]
 · skip
   refine aL [0,1,2,3,4] fun F K=>?_
   obtain⟨f0,f1,f2,f3,f4⟩:=K
   have H:=b4 a4 bj t1 t2
   have K:=bw f0 f1 f2 f3 f4;clear f0 f1 f2 f3 f4
   exact a3 [0,1,2,3,4]
 · skip
   refine aL [0,1,2,3,4] fun F K=>?_
   obtain⟨f0,f1,f2,f3,f4⟩:=K
   have H:=b4 a4 bj t1 t2
   have K:=bw f0 f1 f2 f3 f4;clear f0 f1 f2 f3 f4
   exact a3 [0,1,2,3,4]
noncomputable def sH:FuncId->Option (List I->Option I):=cA [(172,lC),(173,l0),(171,m_),(174,jv),(84,nT)]
theorem Ws:∀f T,sH f=some T->aP Tryz.prog G f T:=cH (by simp only[List.forall_mem_cons];exact ⟨yM,C4,wb,t',yV,fun _ h=>absurd h (by simp)⟩)
theorem Wt:sH 172=some lC:=rfl
theorem Wu:sH 173=some l0:=rfl
theorem Wv:sH 171=some m_:=rfl
theorem Ww:sH 174=some jv:=rfl
theorem Wx:sH 84=some nT:=rfl
theorem Wy:sH 175=none:=rfl
attribute [local simp] Wt Wu Wv Ww Wx Wy
noncomputable def DV:List I->Option I:=bl (fun z:Int × Nat=>aY z.1<=10000000/\z.2<=10000000) (fun z=>[ax z.1,aR z.2]) (fun z=>ax (z.1*2^z.2))
theorem Wz:aP Tryz.prog G 86 DV:=by
 refine bB mixed Ws Ig fun z ar=>?_
 obtain⟨a,n⟩:=z
 obtain⟨aK,aq⟩:=ar
 simp only[aY] at aK aq|-
 have aF:=Nat.pow_pos (n:=n) (show 0<2 by decide)
 have rD:a.natAbs<=a.natAbs*2^n:=Nat.le_mul_of_pos_right _ aF
 have aw:=kG a.natAbs (2^n)
 have jm:(ad (2^n)).length<=n+1:=ct.2 (by rw[kV];exact Nat.pow_lt_pow_right (by decide) (by omega))
 have t1:=sm (a:=a.natAbs) (n:=n) (e:=false) (by omega) (by omega)
 have t2:=wa (a:=a.natAbs*2^n) (b:=a.natAbs) (e:=false) (e':=false) (by omega) (by omega)
 have t3:=m' (b:=bc a) (n:=a.natAbs*2^n) (by omega)
 rw[K5] at t3
 have ml:(dI (a.natAbs*2^n) a.natAbs<Z 0)=False:=eq_false (by simp only[dI];rw[if_neg (by omega)];split<;>decide)
 generalize dI (a.natAbs*2^n) a.natAbs=yL at*
 generalize a.natAbs*2^n=m at*
 generalize a*2^n=c at*
 unfold i86
 cases a4:bc a<;>rw[a4] at t3
 · skip
   refine aL [0,1,2,4,5,6,8,33] fun F K=>?_
   obtain⟨f0,f1,f2,f4,f5,f6,f8,f33⟩:=K
   have H:=bw a4 t1 t2 t3 ml
   have K:=e3 f0 f1 f2 f4 f5 f6 f8 f33;clear f0 f1 f2 f4 f5 f6 f8 f33
   exact a3 [0,1,2,4,5,6,8,33]
 · skip
   refine aL [0,1,2,4,5,6,8,33] fun F K=>?_
   obtain⟨f0,f1,f2,f4,f5,f6,f8,f33⟩:=K
   have H:=bw a4 t1 t2 t3 ml
   have K:=e3 f0 f1 f2 f4 f5 f6 f8 f33;clear f0 f1 f2 f4 f5 f6 f8 f33
   exact a3 [0,1,2,4,5,6,8,33]
end
end
end Go.Proofs.YtemiagcencajeaaGreatDoor
