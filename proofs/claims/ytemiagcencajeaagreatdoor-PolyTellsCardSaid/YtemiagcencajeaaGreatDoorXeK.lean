/- What the claim needs of the walks, put together by a program (shake.py). -/
import Derived.Test.YtemiagcencajeaaGreatDoorXeJ
set_option maxRecDepth 100000
set_option linter.unusedSimpArgs false
set_option linter.unusedVariables false
set_option linter.unusedSectionVars false
namespace Go.Proofs.YtemiagcencajeaaGreatDoor
section
set_option maxHeartbeats 8000000
open Go Go.Eng Go.RowKit Ser
structure n7 (a b:List Int) (n m L:Nat) (cL cm:List (Int × Bool)):Prop where
 ex:∃Q R,ni b m (Q,R)=rj a b/\a9 (zs cL)=a9 Q/\a9 (zs cm)=a9 R
 fs:cL.length=n
 h6:cm.length=a.length
 z:∀j,j<m->(zs cL).getD j 0=0
 top:if m=n then (zs cm).getD (a.length - 1) 0≠0 else (zs cL).getD (n - 1) 0≠0
 dn:∀j,aY ((zs cm).getD j 0)<=L
theorem n7.stop {a b:List Int} {n m L:Nat} {cL cm:List (Int × Bool)} (cd:n7 a b n (m+1) L cL cm) (aa:b≠ []) (h:lead b=0\/(zs cm).getD (m+(b.length - 1)) 0%lead b≠0):iW a b=none:=by
 obtain⟨Q,R,e,-,aH⟩:=cd.ex
 rw[AE aH] at h
 rw[ni,Fl h] at e
 rw[s_ aa,<-e];rfl
theorem n7.step {a b:List Int} {n m L:Nat} {cL cm o:List (Int × Bool)} (cd:n7 a b n (m+1) L cL cm) (aa:b≠ []) (aq:n=a.length+1 - b.length) (hm:m<n) {c:Int} {ec:Bool} (h:¬(lead b=0\/(zs cm).getD (m+(b.length - 1)) 0%lead b≠0)) (J:c=(zs cm).getD (m+(b.length - 1)) 0/lead b)
 (ay:∀j,(zs o).getD j 0=(zs cm).getD j 0 -(if m<=j/\j<m+b.length then c*b.getD (j - m) 0 else 0)) (aw:o.length=a.length) (ma:aY c<=L):
 n7 a b n m (L+aZ b+1) (cL.set m (c,ec)) o:=by
 have aF:=List.length_pos_iff.2 aa
 obtain⟨⟨Q,R,e,aG,aH⟩,fs,h6,z,top,dn⟩:=cd
 have vl:(zs cL).length=n:=by rw[nW,fs]
 have me:zs (cL.set m (c,ec))=(zs cL).set m c:=wF _ _ _
 have h':=h
 rw[AE aH] at h'
 have Ft:c=R.getD (m+(b.length - 1)) 0/lead b:=by rw[J,AE aH]
 rw[ni,Oc h',<-Ft] at e
 refine⟨⟨eb Q (term c m),h3 R (b8 (term c m) b),e,?_,?_⟩,by rw[List.length_set,fs],aw,fun j aA=>?_,?_,fun j=>?_⟩
 · rw[me,Ep (by omega),z m (by omega),n4,uI,aG]
   congr 2;omega
 · ext j
   rw[kb,ay,q3,k1,uI,<-aH,zH,zL,kb,kb]
   by_cases U:j<m
   · rw[if_neg (by omega),if_pos U]
   · rw[if_neg U]
     by_cases h2:j<m+b.length
     · rw[if_pos ⟨by omega,h2⟩]
     · rw[if_neg (by omega),nh (l:=b) (by omega)];simp
 · rw[me,uH _ _ _ _ (by omega),if_neg (by omega)];exact z j (by omega)
 · rw[if_neg (by omega),me,uH _ _ _ _ (by omega)]
   by_cases U:n - 1=m
   · rw[if_pos U]
     rw[if_pos (by omega)] at top
     have al:m+(b.length - 1)=a.length - 1:=by omega
     rw[<-al] at top
     rintro aD
     rw[J] at aD
     refine h (.inr ?_)
     intro az
     have:=Int.ediv_mul_cancel (Int.dvd_of_emod_eq_zero az)
     rw[aD,Int.zero_mul] at this
     exact top this.symm
   · rw[if_neg U]
     rwa [if_neg (by omega)] at top
 · rw[ay]
   have U:=dn j
   split
   · have az:=ka c (b.getD (j - m) 0)
     have aT:=eg b (j - m)
     have b9:=C8 ((zs cm).getD j 0) (c*b.getD (j - m) 0)
     omega
   · rw[Int.sub_zero];omega
theorem n7.init {a b:List Int} {n:Nat} (aK:eU a) (aa:b≠ []) (aq:n=a.length+1 - b.length) (aw:b.length<=a.length):n7 a b n n (aZ a) (List.replicate n (0,true)) (a.map fun z=>(z,false)):=by
 have aF:=List.length_pos_iff.2 aa
 refine⟨⟨[],a,by rw[aq];rfl,?_,by rw[wE]⟩,by simp,by simp,fun j _=>?_,?_,fun j=>by rw[wE];exact eg a j⟩
 · rw[zs,List.map_replicate,zJ,nf]
 · rw[zs,List.map_replicate]
   simp only[List.getD_eq_getElem?_getD,List.getElem?_replicate];split<;>rfl
 · rw[if_pos rfl,wE]
   rcases aK with rfl|h
   · have aD:b.length<=0:=aw
     omega
   · exact h
theorem n7.fin {a b:List Int} {n L:Nat} {cL cm:List (Int × Bool)} (cd:n7 a b n 0 L cL cm) (aK:eU a) (aa:b≠ []) (aq:0<n):iW a b=if strip (zs cm)= [] then some (zs cL) else none:=by
 obtain⟨⟨Q,R,e,aG,aH⟩,fs,-,-,top,-⟩:=cd
 have h:=MG (a.length+1 - b.length) [] a (Q,R) (.inl rfl) aK e.symm
 rw[if_neg (by omega)] at top
 have U:zs cL=Q:=ng (.inr (by rw[nW,fs];exact top)) h.1 aG
 have h2:strip (zs cm)=R:=uF h.2.1 aH.symm
 rw[s_ aa,<-e,U,h2];rfl
end
section
set_option maxHeartbeats 8000000
open Go Go.Eng Go.RowKit
def l8 (p:List (Bool × List Nat)):Bool:=p.all (fun z=>kH z.1 z.2)&&(decide (p= [])||decide ((p.getD (p.length - 1) (false,[])).2≠ []))
def o1 (p:List (Bool × List Nat)):Prop:=∀x∈p,kH x.1 x.2=true
theorem Oy {z:Bool × List Nat} (au:Small z.2) (h:kH z.1 z.2=true):fE z=ax (cC z.1 (val z.2))/\(h1 (cC z.1 (val z.2))=0↔z.2= []):=by
 obtain⟨b,l⟩:=z
 simp only[kH,lA,Bool.and_eq_true,decide_eq_true_eq,Bool.not_eq_true',Bool.and_eq_false_imp,decide_eq_false_iff_not] at h au|-
 have aw:ad (val l)=l:=Cv au (h.1.imp id And.right)
 have av:val l=0↔l= []:=by
  constructor
  · intro aD;rw[<-aw,aD,eS]
  · rintro rfl;rw[<-eS,ck]
 constructor
 · show fE (b,l)=_
   simp only[fE,ax,ai,CZ,yN,aw]
   congr 3
   by_cases e:l= []
   · cases b
     · rfl
     · exact absurd e (h.2 rfl)
   · have:decide (val l≠0)=true:=decide_eq_true fun aD=>e (av.1 aD)
     rw[this,Bool.and_true]
 · rw[<-av]
   simp only[h1,cC]
   cases b<;>simp only[if_true,Bool.false_eq_true,if_false]<;>(split<;>(try split))<;>omega
end
section
set_option maxHeartbeats 8000000
open Go Go.Eng Go.RowKit Ser
theorem n5.size {a b:List Int} (aa:b.length<=100) (eA:aZ b<=1000):∀(m L:Nat) (Q R:List Int),n5 a b L m Q R->m<=101->((ft a b).1.length<=101/\(ft a b).2.length<=201)/\aZ (ft a b).1<=1000+L+m*1003/\aZ (ft a b).2<=1000+L+m*1003
 | 0,L,Q,R,ak,_=>by
   rw[<-ak.eq]
   exact ⟨⟨ak.fs,ak.h6⟩,by have:=ak.ta;simp only[mr];omega,by have:=ak.dn;simp only[mr];omega⟩
 | m+1,L,Q,R,ak,hm=>by
   have h:=n5.size aa eA m _ _ _ (ak.step aa eA (by omega) rfl rfl) (by omega)
   exact ⟨h.1,by omega,by omega⟩
theorem abT {a b:List Int} (bF:a.length<=100) (a':b.length<=100) (jx:aZ a<=1000) (eA:aZ b<=1000):((ft a b).1.length<=101/\(ft a b).2.length<=201)/\aZ (ft a b).1<=102303/\aZ (ft a b).2<=102303:=by
 by_cases aa:b= []
 · subst aa
   have h:=n5.size (a:=a) (b:=[]) (by simp) (by simp[aZ]) (a.length+1) 0 [] a ⟨rfl,by simp,by omega,by simp[aZ],by omega⟩ (by omega)
   exact ⟨h.1,by omega,by omega⟩
 · have aF:=List.length_pos_iff.2 aa
   have h:=n5.size a' eA (a.length+1 - b.length) 0 [] a ⟨rfl,by simp,by omega,by simp[aZ],by omega⟩ (by omega)
   exact ⟨h.1,by omega,by omega⟩
theorem o0.size {a b:List Int} (aa:b.length<=100) (eA:aZ b<=1000) {q:List Int} {r:List Int} (he:rj a b=some (q,r)):∀(m L:Nat) (Q R:List Int),o0 a b L m Q R->m<=101->q.length<=101/\aZ q<=1000+L+m*1003
 | 0,L,Q,R,ak,_=>by
   have e:=ak.eq
   rw[he] at e
   cases e
   exact ⟨ak.fs,by have:=ak.ta;omega⟩
 | m+1,L,Q,R,ak,hm=>by
   by_cases h:lead b=0\/R.getD (m+(b.length - 1)) 0%lead b≠0
   · have e:=ak.eq
     rw[ni,Fl h,he] at e
     cases e
   · have h2:=o0.size aa eA he m _ _ _ (ak.step aa eA (by omega) rfl h rfl).1 (by omega)
     exact ⟨h2.1,by omega⟩
theorem abU {a b q:List Int} (bF:a.length<=100) (a':b.length<=100) (jx:aZ a<=1000) (eA:aZ b<=1000) (h:iW a b=some q):q.length<=101/\aZ q<=102303:=by
 by_cases aa:b= []
 · subst aa;cases h
 · have aF:=List.length_pos_iff.2 aa
   rw[s_ aa,Option.bind_eq_some_iff] at h
   obtain⟨⟨mc,r⟩,U,h2⟩:=h
   simp only at h2
   split at h2
   · cases h2
     have az:=o0.size a' eA U (a.length+1 - b.length) 0 [] a ⟨rfl,by simp,by omega,by simp[aZ],by omega⟩ (by omega)
     exact ⟨az.1,by omega⟩
   · cases h2
end
section
set_option maxHeartbeats 8000000
open Go Go.Eng Go.RowKit Ser
attribute [local simp] aU.m aU.o aU.n aU.g eM dN cE ch cM evalOp.eq_1 evalOp.eq_2 evalOp.eq_3 evalOp.eq_4 evalOp.eq_5 evalOp.eq_6 evalOp.eq_7 evalOp.eq_8 evalOp.eq_9 evalOp.eq_10 evalOp.eq_11 evalOp.eq_12 evalOp.eq_13 evalOp.eq_14 evalOp.eq_15 evalOp.eq_16 evalOp.eq_17 evalOp.eq_18 evalOp.eq_19 evalOp.eq_20 evalOp.eq_21 evalOp.eq_22 evalOp.eq_23 evalOp.eq_24 evalOp.eq_25 evalOp.eq_27 evalOp.eq_28 evalOp.eq_29 hX aQ.ev cg an af.new ds I.cells I.bW I.dk I.dh fU fW fV fX fZ fY hh hi hj e7 e8 cut partOf bound elems hl hn ho hp hq hr hs ht hv hx hy hz fm hA hB hC hD hE hF hG hH hI hJ hK hL hM hN hO hP hQ hR hS hT hU hV hW dM dC dz eF f_ fz af.close af.set fB hY hZ h0 hk fA fy fa dP fj fL fk fl fM fN fO eC eD eE eB f' bD fJ ga fK gb gd eo gf ep gg gh gi e1 hg gj gk gl gm gn gp gq gr gu gv gw gx gy gz gA gB gC gD gE e_ gF gG gH gI gJ gK gL gM gN gO gP gQ gR gS gT
attribute [local simp high] hc hd hf gU gV gW gX gY gZ g0 g1 g2 g3 g4 g5 g6 g7 g8 g9 g_ g' ha hb
attribute [local simp] aD List.getElem?_cons_zero List.getElem?_cons_succ dc cf eY Nat.mod_eq_of_lt ig ih ij ik e2 il im iq
section
attribute [local irreducible] a7
attribute [local simp] c5 cZ ck jO
noncomputable def tc:FuncId->Option (List I->Option I):=cA [(115,zF),(52,qY),(143,sv),(64,q6)]
theorem abV:∀f T,tc f=some T->aP Tryz.prog G f T:=cH (by simp only[List.forall_mem_cons];exact ⟨X1,DU,KE,Ey,fun _ h=>absurd h (by simp)⟩)
theorem abW:tc 115=some zF:=rfl
theorem abX:tc 52=some qY:=rfl
theorem abY:tc 143=some sv:=rfl
theorem abZ:tc 64=some q6:=rfl
theorem ab0:tc 118=none:=rfl
attribute [local simp] abW abX abY abZ ab0
def Oz (a b:List Int) (n m:Nat) (s:aI):Prop:=∃l6 ky cL cm L,s.F 7= .ref ky 0 a.length a.length/\s.F 8= .ref l6 0 n n/\iH s.h ky cm/\iH s.h l6 cL/\ky≠l6/\n7 a b n m L cL cm/\L<=1000+(n - m)*49/\m<=n/\∀j,s.h.next<=j->s.h.shut j=false
def OA (a b:List Int) (l6 ky eG:Nat) (cL cm:List (Int × Bool)) (m:Nat) (c:Int × Bool) (i:Nat) (s:aI):Prop:=∃o,iH s.h ky o/\iH s.h l6 cL/\o.length=a.length/\(∀j,(zs o).getD j 0=(zs cm).getD j 0 -(if m<=j/\j<m+i then c.1*b.getD (j - m) 0 else 0))/\s.h.cells eG=some [dT c]/\eG<s.h.next/\∀j,s.h.next<=j->s.h.shut j=false
noncomputable def AQ:List I->Option I:=bl (fun z:List Int × List Int=>(z.1.length<=100/\z.2.length<=100)/\(aZ z.1<=1000/\aZ z.2<48)/\eU z.1) (fun z=>[aC z.1 false,aC z.2 false]) (fun z=>if (iW z.1 z.2).isSome then .bo [aC ((iW z.1 z.2).getD []) false,.bool true] else .bo [aC [] false,.bool false])
theorem ab1 (z:List Int × List Int) (h:(z.1.length<=100/\z.2.length<=100)/\(aZ z.1<=1000/\aZ z.2<48)/\eU z.1) {args:List I} (he:args.map I.loose= [aC z.1 false,aC z.2 false]):AQ args=some (if (iW z.1 z.2).isSome then .bo [aC ((iW z.1 z.2).getD []) false,.bool true] else .bo [aC [] false,.bool false]):=bC (fun z w h=>by simp only[List.cons.injEq,I.int.injEq,I.bool.injEq,I.sl.injEq,cD,cB,cO,cP,cK,bO,b2,cJ,bD,true_and,and_true] at h;simp[h]) z h he
theorem ab2:aP Tryz.prog G 58 AQ:=by
 refine bB mixed abV H' fun z ar=>?_
 obtain⟨a,b⟩:=z
 obtain⟨⟨bF,a'⟩,⟨jx,eA⟩,pS⟩:=ar
 simp only at bF a' jx eA pS|-
 unfold i58
 by_cases aa:b= []
 · subst aa
   rw[show iW a []=none from rfl,Option.isSome_none,if_neg Bool.false_ne_true]
   refine aL [0,1,4,5,6,7,8,9,10,11,12,13,16,23,34,56,61,62,63,64,87] fun F K=>?_
   obtain⟨f0,f1,f4,f5,f6,f7,f8,f9,f10,f11,f12,f13,f16,f23,f34,f56,f61,f62,f63,f64,f87⟩:=K
   have H:=trivial
   have K:=yh f0 f1 f4 f5 f6 f7 f8 f9 f10 f11 f12 f13 f16 f23 f34 f56 f61 f62 f63 f64 f87;clear f0 f1 f4 f5 f6 f7 f8 f9 f10 f11 f12 f13 f16 f23 f34 f56 f61 f62 f63 f64 f87
   exact a3 [0,1,4,5,6,7,8,9,10,11,12,13,16,23,34,56,61,62,63,64,87]
 have aF:=List.length_pos_iff.2 aa
 have el:¬b.length=0:=by omega
 have jP:(b.length == 0)=false:=by simpa using el
 by_cases au:a.length<b.length
 · have cy:IntKind.i64.wrap (Z a.length - Z b.length)=(a.length:Int) - b.length:=by rw[wrap_i64 (by simp only[Z];omega) (by simp only[Z];omega)];rfl
   have e9:((a.length:Int) - b.length<Z 0)=True:=eq_true (by simp only[Z];omega)
   have Fq:rj a b=some ([],a):=by rw[rj,show a.length+1 - b.length=0 by omega];rfl
   have n6:iW a b=if a= [] then some [] else none:=by rw[s_ aa,Fq];rfl
   rw[n6]
   by_cases aK:a= []
   · subst aK
     rw[if_pos rfl,Option.isSome_some,if_pos rfl]
     have rW:IntKind.i64.wrap (Z 0 - Z b.length)=((0:Nat):Int) - b.length:=cy
     rw[show ((([]:List Int).length:Nat):Int) - b.length=((0:Nat):Int) - b.length from rfl] at e9
     clear cy
     generalize ((0:Nat):Int) - b.length=pI at*
     refine aL [0,1,4,5,6,7,8,9,10,11,12,13,16,23,34,56,61,62,63,64,87] fun F K=>?_
     obtain⟨f0,f1,f4,f5,f6,f7,f8,f9,f10,f11,f12,f13,f16,f23,f34,f56,f61,f62,f63,f64,f87⟩:=K
     have H:=b4 el jP rW e9
     have K:=yh f0 f1 f4 f5 f6 f7 f8 f9 f10 f11 f12 f13 f16 f23 f34 f56 f61 f62 f63 f64 f87;clear f0 f1 f4 f5 f6 f7 f8 f9 f10 f11 f12 f13 f16 f23 f34 f56 f61 f62 f63 f64 f87
     exact a3 [0,1,4,5,6,7,8,9,10,11,12,13,16,23,34,56,61,62,63,64,87]
   · rw[if_neg aK,Option.isSome_none,if_neg Bool.false_ne_true]
     have fg:¬a.length=0:=fun h=>aK (List.length_eq_zero_iff.1 h)
     have ab3:(a.length == 0)=false:=by simpa using fg
     generalize (a.length:Int) - b.length=pI at*
     refine aL [0,1,4,5,6,7,8,9,10,11,12,13,16,23,34,56,61,62,63,64,87] fun F K=>?_
     obtain⟨f0,f1,f4,f5,f6,f7,f8,f9,f10,f11,f12,f13,f16,f23,f34,f56,f61,f62,f63,f64,f87⟩:=K
     have H:=dq el jP cy e9 fg ab3 aK
     have K:=yh f0 f1 f4 f5 f6 f7 f8 f9 f10 f11 f12 f13 f16 f23 f34 f56 f61 f62 f63 f64 f87;clear f0 f1 f4 f5 f6 f7 f8 f9 f10 f11 f12 f13 f16 f23 f34 f56 f61 f62 f63 f64 f87
     exact a3 [0,1,4,5,6,7,8,9,10,11,12,13,16,23,34,56,61,62,63,64,87]
 have cy:IntKind.i64.wrap (Z a.length - Z b.length)=Z (a.length - b.length):=cf (by omega) (by omega)
 have bP:IntKind.i64.wrap (Z b.length - Z 1)=Z (b.length - 1):=cf (by omega) (by omega)
 obtain⟨n,aq⟩:∃n,n=a.length+1 - b.length:=⟨_,rfl⟩
 have q0:IntKind.i64.wrap (Z (a.length - b.length)+Z 1)=Z n:=by rw[dc (by omega)];congr 1;omega
 have ia:=q5 (show b.length - 1<b.length by omega)
 rw[show b.getD (b.length - 1) 0=lead b from rfl] at ia
 obtain⟨l,aw⟩:∃l,l=lead b:=⟨_,rfl⟩
 rw[<-aw] at ia
 have ef:a≠ []:=by rintro rfl;exact au aF
 obtain⟨v,h',al,r,rfl,aH,V,K⟩:=Oo (tab:=tc) [] ⟨fun _=>none,fun _=>false,20,fun _=>none⟩ (fun _ _=>rfl) ef (by omega) (e:=false)
 have oQ:Z n*32<=140737488355328:=by simp only[Z];omega
 have sZ:=K.next
 have p6:h'.shut=fun _=>false:=K.shut
 simp only at aH sZ
 refine aL [0,1,4,5,6,7,8,9,10,11,12,13,16,23,34,56,61,62,63,64,87] fun F K=>?_
 obtain⟨f0,f1,f4,f5,f6,f7,f8,f9,f10,f11,f12,f13,f16,f23,f34,f56,f61,f62,f63,f64,f87⟩:=K
 have H:=iU el jP bP cy q0 ia al oQ (@uy) p6
 have K:=yh f0 f1 f4 f5 f6 f7 f8 f9 f10 f11 f12 f13 f16 f23 f34 f56 f61 f62 f63 f64 f87;clear f0 f1 f4 f5 f6 f7 f8 f9 f10 f11 f12 f13 f16 f23 f34 f56 f61 f62 f63 f64 f87
 refine cI [0,1,4,5,6,7,8,9,10,11,12,13,16,23,34,56,61,62,63,64,87] fun F k=>?_;clear K H
 obtain⟨f0,f1,f4,f5,f6,f7,f8,f9,f10,f11,f12,f13,f16,f23,f34,f56,f61,f62,f63,f64,f87⟩:=k
 have ab4:Z (a.length - b.length)=eT n:=by simp only[Z,eT];omega
 have aer:=V.c6
 refine mF (fun m s=>Oz a b n m s/\s.F 9= .int .i64 (eT m)) (Oz a b n 0) (fun s=>iW a b=none/\s.F 4= .sl [] true/\s.F 5= .bool false) n ?_ ?_ ?_ ?_
 · refine⟨⟨17,r,List.replicate n (0,true),a.map fun z=>(z,false),aZ a,f7,f8,by have aD:=V.off (q:=17) (by omega) (some (c3 (List.replicate n (0,true)))) (h'.next+2) h'.aS (by omega);rw[p6] at aD;exact aD,⟨by simp only[an,if_true],rfl,by simp only;omega⟩,by omega,n7.init pS aa aq (by omega),by omega,Nat.le_refl _,fun _ _=>rfl⟩,by rw[<-ab4];exact f9⟩
 · rintro m s ag ⟨⟨l6,ky,cL,cm,L,ew,eJ,nk,p7,bG,cd,bb,k8,bV⟩,qJ⟩
   replace f1:=(ag 1 rfl).trans f1
   clear f7 f8 f9
   have f7:=ew
   have f8:=eJ
   have f9:=qJ
   have K:=b4 f1 f7 f8 f9;clear f1 f7 f8 f9
   refine bL [1,4,5,7,8,9,10,11,34,56] fun F k=>?_;clear K
   obtain⟨f1,f4,f5,f7,f8,f9,f10,f11,f34,f56⟩:=k
   cases m with
   | zero=>
     rw[nM] at f9
     have H:=(@qQ)
     have K:=iU f1 f4 f5 f7 f8 f9 f10 f11 f34 f56;clear f1 f4 f5 f7 f8 f9 f10 f11 f34 f56
     refine bH [1,4,5,7,8,9,10,11,34,56] fun F k=>?_;clear K H
     obtain⟨f1,f4,f5,f7,f8,f9,f10,f11,f34,f56⟩:=k
     exact ⟨l6,ky,cL,cm,L,f7,f8,nk.bump _ _ (by omega),p7.bump _ _ (by omega),bG,cd,bb,k8,fun j aA=>bV j (by simp only at aA;omega)⟩
   | succ m=>
     rw[nN] at f9
     have h6:=cd.h6
     have fs:=cd.fs
     have mU:IntKind.i64.wrap (Z m+Z b.length)=Z (m+b.length):=dc (by omega)
     have nc:IntKind.i64.wrap (Z (m+b.length) - Z 1)=Z (m+(b.length - 1)):=by rw[cf (by omega) (by omega)];congr 1;omega
     have Fu:IntKind.i64.wrap (Z m - Z 1)=eT m:=ko (by omega)
     obtain⟨u3,OB⟩:∃p,cm[m+(b.length - 1)]? =some p:=⟨cm[m+(b.length - 1)]'(by omega),List.getElem?_eq_getElem (by omega)⟩
     have gc:(c3 cm)[m+(b.length - 1)]? =some (dT u3):=by simp[c3,OB]
     have ec:=uG OB
     have mZ:=nk.cells
     have qW:=nk.bR
     have pO:=nk.c6
     have kW:=p7.cells
     have kX:=p7.bR
     have c6:=p7.c6
     have AL:=pG (o:=cm) (by omega)
     have ab5:=pG (o:=cL) (by omega)
     have AM:m+(b.length - 1)<a.length:=by omega
     have y5:aY l<48:=by rw[aw];exact Nat.lt_of_le_of_lt (eg b _) eA
     have abH:L<=1000+101*49:=by
      have:(n -(m+1))*49<=101*49:=Nat.mul_le_mul (by omega) (by omega)
      omega
     have EG:aY u3.1<=L:=by rw[<-ec];exact cd.dn _
     have t1:=X0 (u3.1,l) ⟨by simp only;omega,by simp only;omega⟩ (args:=[dT u3,ax l]) (by simp)
     simp only at t1
     by_cases hex:l=0\/u3.1%l≠0
     · have eP:=cd.stop aa (by rw[ec,<-aw];exact hex)
       rw[if_pos hex] at t1
       clear hex
       have H:=jK bP mU nc ia mZ qW pO AL gc AM bV t1
       have K:=iU f1 f4 f5 f7 f8 f9 f10 f11 f34 f56;clear f1 f4 f5 f7 f8 f9 f10 f11 f34 f56
       refine bH [1,4,5,7,8,9,10,11,34,56] fun F k=>?_;clear K H
       obtain⟨f1,f4,f5,f7,f8,f9,f10,f11,f34,f56⟩:=k
       exact eP
     · rw[if_neg hex] at t1
       obtain⟨c,J⟩:∃c,c=u3.1/l:=⟨_,rfl⟩
       rw[<-J] at t1
       have xg:m<n:=k8
       have lc:aY c<=L:=Nat.le_trans (by rw[J];exact h_ (Int.natAbs_ediv_le_natAbs _ _)) EG
       obtain⟨bs,Fx⟩:∃p,(c3 cL)[m]? =some (dT p):=⟨_,zf (by omega)⟩
       have Fy:=uv cL m (c,false)
       have H:=pr bP mU nc ia mZ qW pO AL gc AM bV t1 kW kX c6 ab5 Fx Fy xg
       have K:=jK f1 f7 f8 f9 f10 f11 f34 f56 f61 f62 f63 f64;clear f1 f7 f8 f9 f10 f11 f34 f56 f61 f62 f63 f64
       refine bH [1,7,8,9,10,11,34,56,61,62,63,64] fun F k=>?_;clear K H
       obtain⟨f1,f7,f8,f9,f10,f11,f34,f56,f61,f62,f63,f64⟩:=k
       have ab6:s.h.next+2+18≠l6:=by omega
       have aes:s.h.next+2+18≠ky:=by omega
       have ab7:=(nk.off (q:=s.h.next+2+18) (by omega) (some [dT (c,false)]) (s.h.next+2+21) s.h.aS (by omega)).off (q:=l6) bG (some (c3 (cL.set m (c,false)))) (s.h.next+2+21+2+5+3) s.h.aS (by simp only;omega)
       have ab8:=(p7.off (q:=s.h.next+2+18) (by omega) (some [dT (c,false)]) (s.h.next+2+21) s.h.aS (by omega)).put (cL.set m (c,false)) (s.h.next+2+21+2+5+3) s.h.aS (by simp only;omega)
       obtain⟨B,bj⟩:∃B,B=b.length:=⟨_,rfl⟩
       refine iz B (fun i s2=>OA a b l6 ky (s.h.next+2+18) (cL.set m (c,false)) cm m (c,false) i s2/\s2.F 63=aR i) (OA a b l6 ky (s.h.next+2+18) (cL.set m (c,false)) cm m (c,false) B) (fun _=>False) ?_ ?_ ?_ (fun _ _ h=>h.elim)
       · refine⟨⟨cm,ab7,ab8,h6,fun j=>by rw[if_neg (by omega),Int.sub_zero],?_,by simp only;omega,fun j aA=>bV j (by simp only at aA;omega)⟩,f63⟩
         simp only[an]
         rw[if_neg ab6,if_true]
       · rintro i s2 lj ag ⟨⟨o,kL,sO,ol,lH,iy,pT,u4⟩,ab9⟩
         replace f1:=(ag 1 rfl).trans f1;replace f7:=(ag 7 rfl).trans f7;replace f8:=(ag 8 rfl).trans f8;replace f9:=(ag 9 rfl).trans f9;replace f10:=(ag 10 rfl).trans f10;replace f61:=(ag 61 rfl).trans f61;replace f62:=(ag 62 rfl).trans f62
         clear f63
         have f63:=ab9
         have K:=e3 f1 f7 f8 f9 f10 f61 f62 f63;clear f1 f7 f8 f9 f10 f61 f62 f63
         refine bL [1,7,8,9,10,12,13,61,62,63,64] fun F k=>?_;clear K
         obtain⟨f1,f7,f8,f9,f10,f12,f13,f61,f62,f63,f64⟩:=k
         have aca:=kL.cells
         have acb:=kL.bR
         have L4:=kL.c6
         by_cases b9:i<B
         · have n0:=q5 (show i<b.length by omega)
           obtain⟨y,aO⟩:∃y,y=b.getD i 0:=⟨_,rfl⟩
           have k0:=eg b i
           rw[<-aO] at n0 k0
           have acd:m+i<a.length:=by omega
           obtain⟨p,OC⟩:∃p,o[m+i]? =some p:=⟨o[m+i]'(by omega),List.getElem?_eq_getElem (by omega)⟩
           have go:(c3 o)[m+i]? =some (dT p):=by simp[c3,OC]
           have Aa:=uG OC
           have Fz:=lH (m+i)
           rw[Aa,if_neg (by omega),Int.sub_zero] at Fz
           have aet:aY p.1<=L:=by rw[Fz];exact cd.dn _
           have ace:=pG (o:=o) (by omega)
           have st:=uv o (m+i) (p.1 - c*y,false)
           have acf:IntKind.i64.wrap (Z m+Z i)=Z (m+i):=dc (by omega)
           have aeu:=ka c y
           have t2:=wL (c,y) ⟨by simp only;omega,by simp only;omega,by simp only;omega⟩ (args:=[dT (c,false),ax y]) (by simp)
           have t3:=Dd (p.1,c*y) ⟨by simp only;omega,by simp only;omega⟩ (args:=[dT p,ax (c*y)]) (by simp)
           simp only at t2 t3
           have oM:∀j,s2.h.shut (s2.h.next+j)=false:=fun j=>u4 _ (by omega)
           have acg:∀j,(zs (o.set (m+i) (p.1 - c*y,false))).getD j 0=(zs cm).getD j 0 -(if m<=j/\j<m+(i+1) then (c,false).1*b.getD (j - m) 0 else 0):=fun j=>by
            rw[wF,uH _ _ _ _ (by rw[nW];omega)]
            by_cases al:j=m+i
            · subst al
              rw[if_pos rfl,if_pos ⟨by omega,by omega⟩,show m+i - m=i by omega,<-aO,Fz]
            · rw[if_neg al,lH]
              by_cases ao:m<=j/\j<m+i
              · rw[if_pos ao,if_pos ⟨ao.1,by omega⟩]
              · rw[if_neg ao,if_neg (by omega)]
           generalize c*y=iR at*
           generalize p.1 - iR=v at*
           have H:=Rp b9 bj.symm n0 acd go ace aca acb L4 st acf t2 t3 oM u4 iy pT ol
           have K:=kl f1 f7 f8 f9 f10 f12 f13 f61 f62 f63 f64;clear f1 f7 f8 f9 f10 f12 f13 f61 f62 f63 f64
           refine bH [1,7,8,9,10,12,13,61,62,63,64] fun F k=>?_;clear K H
           obtain⟨f1,f7,f8,f9,f10,f12,f13,f61,f62,f63,f64⟩:=k
           have aev:=sO.c6
           refine⟨o.set (m+i) (v,false),(kL.off (q:=s2.h.next+1+3) (by omega) (some [ax y]) (s2.h.next+1+6) s2.h.aS (by omega)).put _ _ _ (by simp only;omega),(sO.off (q:=s2.h.next+1+3) (by omega) (some [ax y]) (s2.h.next+1+6) s2.h.aS (by omega)).off (q:=ky) (Ne.symm bG) _ _ _ (by simp only;omega),by rw[List.length_set];exact ol,acg,?_,by simp only;omega,fun j aA=>u4 j (by simp only at aA;omega)⟩
           simp only[an]
           rw[if_neg (by omega),if_neg (by omega)]
           exact iy
         · obtain rfl:i=B:=by omega
           have H:=bj.symm
           have K:=kl f1 f7 f8 f9 f10 f12 f13 f61 f62 f63 f64;clear f1 f7 f8 f9 f10 f12 f13 f61 f62 f63 f64
           refine bH [1,7,8,9,10,12,13,61,62,63,64] fun F k=>?_;clear K H
           obtain⟨f1,f7,f8,f9,f10,f12,f13,f61,f62,f63,f64⟩:=k
           exact ⟨o,kL.bump _ _ (by omega),sO.bump _ _ (by omega),ol,lH,iy,by simp only;omega,fun j aA=>u4 j (by simp only at aA;omega)⟩
       · rintro s2 ag ⟨o,kL,sO,ol,lH,iy,pT,u4⟩
         replace f1:=(ag 1 rfl).trans f1;replace f7:=(ag 7 rfl).trans f7;replace f8:=(ag 8 rfl).trans f8;replace f9:=(ag 9 rfl).trans f9;replace f10:=(ag 10 rfl).trans f10
         clear f63
         have AP:=cd.step (ec:=false) aa aq xg (by rw[ec,<-aw];exact hex) (c:=c) (by rw[ec,<-aw];assumption) (o:=o) (by rw[<-bj];exact lH) ol lc
         have K:=bw f1 f7 f8 f9 f10;clear f1 f7 f8 f9 f10
         refine bL [1,7,8,9,10,34] fun F k=>?_;clear K
         obtain⟨f1,f7,f8,f9,f10,f34⟩:=k
         have H:=Fu
         have K:=dW f1 f7 f8 f9 f10 f34;clear f1 f7 f8 f9 f10 f34
         repeat' (first|refine dY ?_|refine dZ ?_|((first|refine er ?_|refine et ?_|refine eu ?_|exact d'|refine d_ ?_);try(refine eI [1,7,8,9,10,34] fun F k=>?_;replace K:=k;clear k))|(refine ea (fun J=>?_) (fun J=>?_)<;>first|(exfalso;simp(disch:=omega) [H] at J;done)|(exfalso;simp at J;omega)|simp at J)|exact r7|refine r6 ?_|exact r9|refine r8 ?_|exact trivial)
         all_goals obtain⟨f1,f7,f8,f9,f10,f34⟩:=K
         exact ⟨m,by omega,⟨l6,ky,_,o,_,f7,f8,kL.bump _ _ (by omega),sO.bump _ _ (by omega),bG,AP,by omega,by omega,fun j aA=>u4 j (by simp only at aA;omega)⟩,rfl⟩
 · rintro s ag ⟨l6,ky,cL,cm,L,ew,eJ,nk,p7,bG,cd,bb,k8,bV⟩
   clear f7 f8 f9
   have f7:=ew
   have f8:=eJ
   have n6:=cd.fin pS aa (by omega)
   have h6:=cd.h6
   have fs:=cd.fs
   obtain⟨ids,uL,ay⟩:=(show l7 s.h (.ref ky 0 a.length a.length) cm from .inr ⟨ky,by rw[h6],nk⟩).outs
   have u2:=uK (zs cm) (by rw[nW];omega) (args:=[.sl (c3 cm) uL]) (by simp only[List.map_cons,List.map_nil,dP,uw])
   rw[n6]
   have K:=bA f7 f8;clear f7 f8
   refine bL [4,5,7,8,87] fun F k=>?_;clear K
   obtain⟨f4,f5,f7,f8,f87⟩:=k
   by_cases ar:strip (zs cm)= []
   · rw[if_pos ar,Option.isSome_some,if_pos rfl,Option.getD_some]
     rw[ar] at u2
     have EI:=uw cL
     have dJ:=p7.cells
     have nx:=zg cL
     have lE:=sC cL
     have iG:List.take n (c3 cL)=c3 cL:=List.take_of_length_le (by omega)
     generalize zs cL=VH at*
     have H:=dq ay u2 dJ nx lE fs iG
     have K:=bw f4 f5 f7 f8 f87;clear f4 f5 f7 f8 f87
     repeat' (first|refine dY ?_|refine dZ ?_|((first|refine er ?_|refine et ?_|refine eu ?_|exact d'|refine d_ ?_);try(refine eI [4,5,7,8,87] fun F k=>?_;replace K:=k;clear k))|(refine ea (fun J=>?_) (fun J=>?_)<;>first|(exfalso;simp(disch:=omega) [H] at J;done)|(exfalso;simp at J;omega)|simp at J)|((first|refine bU ?_|refine c9 ?_);simp(disch:=omega) [H,K,EI])|exact trivial)
     all_goals obtain⟨f4,f5,f7,f8,f87⟩:=K
   · rw[if_neg ar,Option.isSome_none,if_neg Bool.false_ne_true]
     have fg:0<(strip (zs cm)).length:=List.length_pos_iff.2 ar
     generalize strip (zs cm)=rest at*
     have H:=bt ay u2 fg
     have K:=bw f4 f5 f7 f8 f87;clear f4 f5 f7 f8 f87
     exact a3 [4,5,7,8,87]
 · rintro s ag ⟨n6,f4,f5⟩
   rw[n6]
   simp[f4,f5]
end
end
section
set_option maxHeartbeats 8000000
open Go Go.Eng Go.RowKit
attribute [local simp] aU.m aU.o aU.n aU.g eM dN cE ch cM evalOp.eq_1 evalOp.eq_2 evalOp.eq_3 evalOp.eq_4 evalOp.eq_5 evalOp.eq_6 evalOp.eq_7 evalOp.eq_8 evalOp.eq_9 evalOp.eq_10 evalOp.eq_11 evalOp.eq_12 evalOp.eq_13 evalOp.eq_14 evalOp.eq_15 evalOp.eq_16 evalOp.eq_17 evalOp.eq_18 evalOp.eq_19 evalOp.eq_20 evalOp.eq_21 evalOp.eq_22 evalOp.eq_23 evalOp.eq_24 evalOp.eq_25 evalOp.eq_27 evalOp.eq_28 evalOp.eq_29 hX aQ.ev cg an af.new ds I.cells I.bW I.dk I.dh fU fW fV fX fZ fY hh hi hj e7 e8 cut partOf bound elems hl hn ho hp hq hr hs ht hv hx hy hz fm hA hB hC hD hE hF hG hH hI hJ hK hL hM hN hO hP hQ hR hS hT hU hV hW dM dC dz eF f_ fz af.close af.set fB hY hZ h0 hk fA fy fa dP fj fL fk fl fM fN fO eC eD eE eB f' bD fJ ga fK gb gd eo gf ep gg gh gi e1 hg gj gk gl gm gn gp gq gr gu gv gw gx gy gz gA gB gC gD gE e_ gF gG gH gI gJ gK gL gM gN gO gP gQ gR gS gT
attribute [local simp high] hc hd hf gU gV gW gX gY gZ g0 g1 g2 g3 g4 g5 g6 g7 g8 g9 g_ g' ha hb
attribute [local simp] aD List.getElem?_cons_zero List.getElem?_cons_succ dc cf eY Nat.mod_eq_of_lt ig ih ij ik e2 il im iq
section
attribute [local irreducible] a7
attribute [local simp] c5 cZ lI ck jO
theorem AR {p:List (Bool × List Nat)} {i:Nat} (h:i<p.length):(p.map fun z=>fE z)[i]? =some (fE p[i]):=by simp[h]
noncomputable def p8:FuncId->Option (List I->Option I):=cA [(147,yW),(87,qM)]
theorem ach:∀f T,p8 f=some T->aP Tryz.prog G f T:=cH (by simp only[List.forall_mem_cons];exact ⟨Uv,C',fun _ h=>absurd h (by simp)⟩)
theorem aci:p8 147=some yW:=rfl
theorem acj:p8 87=some qM:=rfl
theorem ack:p8 146=none:=rfl
theorem acm:p8 210=none:=rfl
theorem acn:p8 148=none:=rfl
attribute [local simp] aci acj ack acm acn
theorem aco (Y:List cF) (h:af) (au:∀j,h.next<=j->h.shut j=false) (z:Bool × List Nat) (aw:z.2.length<=1000000000):
 ∃v h',eX G (aE Tryz.prog) p8 Y (.fn 146) [fE z] h=some (v,h')/\v= .bool (!kH z.1 z.2)/\Kept h h':=by
 have t:=Uu z aw (args:=[fE z]) (by simp[yo])
 refine j8 IE ?_
 generalize kH z.1 z.2=b at*
 unfold i146
 refine aL [0,1,2] fun F K=>?_
 obtain⟨f0,f1,f2⟩:=K
 have H:=bA t au
 have K:=bt f0 f1 f2;clear f0 f1 f2
 refine cI [0,1,2] fun F k=>?_;clear K H
 obtain⟨f0,f1,f2⟩:=k
 try refine bU ?_
 simp[jI,f2]
 exact (Kept.mE h).new _ _ (by omega) (by omega)
theorem acp (Y:List cF) (h:af) (bV:∀j,h.next<=j->h.shut j=false) (p:List (Bool × List Nat)) (f:Bool) (le:p.length<=1000000) (ar:∀z∈p,z.2.length<=1000000000):
 ∃v h',eX G (aE Tryz.prog) p8 Y (.fn 210) [.sl (p.map fun z=>fE z) f,.fn 146 [] []] h=some (v,h')/\(∃n:Int,v= .int .i64 n/\(Z 0<=n↔¬o1 p))/\Kept h h':=by
 refine j8 I1 ?_
 unfold i210
 refine aL [0,1,4,5,7,8,9,16] fun F K=>?_
 obtain⟨f0,f1,f4,f5,f7,f8,f9,f16⟩:=K
 have H:=trivial
 have K:=e3 f0 f1 f4 f5 f7 f8 f9 f16;clear f0 f1 f4 f5 f7 f8 f9 f16
 refine cI [0,1,4,5,7,8,9,16] fun F k=>?_;clear K H
 obtain⟨f0,f1,f4,f5,f7,f8,f9,f16⟩:=k
 refine iz p.length (fun i s=>o1 (p.take i)/\Kept h s.h/\s.F 8=aR i) (fun s=>o1 p/\Kept h s.h) (fun s=>¬o1 p/\Kept h s.h/\∃n,s.F 4=aR n) ?_ ?_ ?_ ?_
 · exact ⟨by simp[o1],(Kept.mE h).bump _ (by omega),f8⟩
 · rintro i s ab ag ⟨aK,K,eJ⟩
   replace f0:=(ag 0 rfl).trans f0;replace f1:=(ag 1 rfl).trans f1;replace f7:=(ag 7 rfl).trans f7
   clear f8
   have f8:=eJ
   have K:=b4 f0 f1 f7 f8;clear f0 f1 f7 f8
   refine bL [0,1,4,5,7,8,9,16] fun F k=>?_;clear K
   obtain⟨f0,f1,f4,f5,f7,f8,f9,f16⟩:=k
   by_cases aT:i<p.length
   · have aW:=AR aT
     have w_:p.take (i+1)=p.take i++ [p[i]]:=List.take_succ_eq_append_getElem aT
     have ot:=List.getElem_mem aT
     have oH:=K.next
     have xh:=K.bump (s.h.next+1+2+6) (by omega)
     obtain⟨v,h',al,rfl,bx⟩:=aco Y ⟨s.h.cells,s.h.shut,s.h.next+1+2+6,s.h.aS⟩ (zi bV xh) p[i] (ar _ ot)
     have jn:=xh.trans bx
     generalize p[i]=x at*
     cases b9:kH x.1 x.2<;>rw[b9] at al
     · skip
       have H:=bt aT aW al
       have K:=e3 f0 f1 f4 f5 f7 f8 f9 f16;clear f0 f1 f4 f5 f7 f8 f9 f16
       refine cI [0,1,4,5,7,8,9,16] fun F k=>?_;clear K H
       obtain⟨f0,f1,f4,f5,f7,f8,f9,f16⟩:=k
       exact ⟨fun h=>(by have:=h x ot;rw[b9] at this;cases this),jn.bump _ (by omega)⟩
     · skip
       have H:=bt aT aW al
       have K:=e3 f0 f1 f4 f5 f7 f8 f9 f16;clear f0 f1 f4 f5 f7 f8 f9 f16
       refine cI [0,1,4,5,7,8,9,16] fun F k=>?_;clear K H
       obtain⟨f0,f1,f4,f5,f7,f8,f9,f16⟩:=k
       refine⟨?_,jn.bump _ (by omega)⟩
       rw[w_]
       intro y aO
       rcases List.mem_append.1 aO with aO|aO
       · exact aK y aO
       · rw[List.mem_singleton.1 aO];exact b9
   · have lj:i=p.length:=by omega
     subst lj
     rw[List.take_length] at aK
     have H:=aT
     have K:=e3 f0 f1 f4 f5 f7 f8 f9 f16;clear f0 f1 f4 f5 f7 f8 f9 f16
     refine cI [0,1,4,5,7,8,9,16] fun F k=>?_;clear K H
     obtain⟨f0,f1,f4,f5,f7,f8,f9,f16⟩:=k
     exact ⟨aK,K.bump _ (by omega)⟩
 · rintro s ag ⟨au,K⟩
   have K:=trivial
   refine bL [4] fun F k=>?_;clear K
   have f4:=k;clear k
   have H:=trivial
   have K:=f4;clear f4
   refine cI [4] fun F k=>?_;clear K H
   have f4:=k;clear k
   try refine bU ?_
   simp[jI,f4,Z]
   exact ⟨au,K.bump _ (by omega)⟩
 · rintro s ag ⟨au,K,n,f4⟩
   simp[jI,f4]
   exact ⟨au,K⟩
theorem acq (Y:List cF) (h:af) (bV:∀j,h.next<=j->h.shut j=false) (p:List (Bool × List Nat)) (f:Bool) (le:p.length<=1000000) (ar:∀z∈p,z.2.length<=1000000000):
 ∃v h',eX G (aE Tryz.prog) p8 Y (.fn 148) [.sl (p.map fun z=>fE z) f,.fn 146 [] []] h=some (v,h')/\v= .bool (!(p.all fun z=>kH z.1 z.2))/\Kept h h':=by
 refine j8 IG ?_
 have xh:=(Kept.mE h).bump (h.next+1+5) (by omega)
 obtain⟨v,h',al,⟨n,rfl,av⟩,bx⟩:=acp Y ⟨h.cells,h.shut,h.next+1+5,h.aS⟩ (zi bV xh) p f le ar
 have jn:=xh.trans bx
 have aa:decide (Z 0<=n)= !(p.all fun z=>kH z.1 z.2):=by
  rw[Bool.eq_iff_iff,decide_eq_true_eq,av,Bool.not_eq_true',<-Bool.not_eq_true,List.all_eq_true,o1]
 unfold i148
 refine aL [0,1,4] fun F K=>?_
 obtain⟨f0,f1,f4⟩:=K
 have H:=al
 have K:=bt f0 f1 f4;clear f0 f1 f4
 refine cI [0,1,4] fun F k=>?_;clear K H
 obtain⟨f0,f1,f4⟩:=k
 try refine bU ?_
 simp[jI,f4]
 exact ⟨aa,jn.bump _ (by omega)⟩
def xi (p:List (Bool × List Nat)):Prop:=p.length<=1000000/\∀z∈p,Small z.2/\z.2.length<=1000000
noncomputable def AS:List I->Option I:=bl (fun p:List (Bool × List Nat)=>xi p) (fun p=>[.sl (p.map fun z=>fE z) false]) (fun p=> .bool (l8 p))
theorem acr {p:List (Bool × List Nat)} (h:xi p) {args:List I} (he:args.map I.loose= [.sl (p.map fun z=>fE z) false]):AS args=some (.bool (l8 p)):=
 bC (fun z w h=>by
  simp only[List.cons.injEq,I.sl.injEq,w2,and_true] at h
  rw[h]) p h he
theorem acs:aP Tryz.prog G 60 AS:=by
 refine bB mixed ach Ia fun p aF=>?_
 obtain⟨aw,ar⟩:=aF
 obtain⟨v,h',al,rfl,K⟩:=acq [] ⟨fun _=>none,fun _=>false,22,fun _=>none⟩ (fun _ _=>rfl) p false aw (fun z h=>Nat.le_trans (ar z h).2 (by omega))
 have p6:h'.shut=fun _=>false:=K.shut
 unfold i60
 cases aK:p.all (fun z=>kH z.1 z.2)
 · rw[aK] at al
   rw[show l8 p=false by rw[l8,aK];rfl]
   simp only[Bool.not_false] at al
   refine aL [0,2,3] fun F K=>?_
   obtain⟨f0,f2,f3⟩:=K
   have H:=bA al p6
   have K:=bt f0 f2 f3;clear f0 f2 f3
   exact kT [0,2,3]
 · rw[aK] at al
   simp only[Bool.not_true] at al
   by_cases aD:p= []
   · subst aD
     rw[show l8 []=true from rfl]
     simp only[List.map_nil] at al
     refine aL [0,2,3] fun F K=>?_
     obtain⟨f0,f2,f3⟩:=K
     have H:=bA al p6
     have K:=bt f0 f2 f3;clear f0 f2 f3
     exact kT [0,2,3]
   · have aF:=List.length_pos_iff.2 aD
     have el:¬p.length=0:=by omega
     have jP:(p.length == 0)=false:=by simpa using el
     have ia:=AR (show p.length - 1<p.length by omega)
     have FA:p.getD (p.length - 1) (false,[])=p[p.length - 1]'(by omega):=by rw[List.getD_eq_getElem?_getD,List.getElem?_eq_getElem (by omega)];rfl
     have hm:p[p.length - 1]'(by omega)∈p:=List.getElem_mem _
     rw[show l8 p=decide ((p[p.length - 1]'(by omega)).2≠ []) by rw[l8,aK,FA,decide_eq_false aD];rfl]
     obtain⟨ao,aV⟩:=Oy (ar _ hm).1 (List.all_eq_true.1 aK _ hm)
     generalize p[p.length - 1]'(by omega)=x at*
     rw[ao] at ia
     have t:=C_ (cC x.1 (val x.2)) trivial (args:=[ax (cC x.1 (val x.2))]) (by simp)
     have bP:IntKind.i64.wrap (Z p.length - Z 1)=Z (p.length - 1):=cf (by omega) (by omega)
     by_cases ae:x.2= []
     · rw[aV.2 ae] at t
       rw[decide_eq_false (by simpa using ae)]
       generalize cC x.1 (val x.2)=y at*
       refine aL [0,2,3] fun F K=>?_
       obtain⟨f0,f2,f3⟩:=K
       have H:=e3 al p6 (@aD) el jP ia bP t
       have K:=bt f0 f2 f3;clear f0 f2 f3
       exact kT [0,2,3]
     · have ow:¬h1 (cC x.1 (val x.2))=0:=fun h=>ae (aV.1 h)
       have FB:(h1 (cC x.1 (val x.2)) != Z 0)=true:=bne_iff_ne.2 ow
       rw[decide_eq_true ae]
       generalize h1 (cC x.1 (val x.2))=zG at*
       generalize cC x.1 (val x.2)=y at*
       refine aL [0,2,3] fun F K=>?_
       obtain⟨f0,f2,f3⟩:=K
       have H:=iU al p6 (@aD) el jP ia bP t ow FB
       have K:=bt f0 f2 f3;clear f0 f2 f3
       exact kT [0,2,3]
noncomputable def FC:FuncId->Option (List I->Option I):=cA [(149,Ah),(150,oT)]
theorem acu:∀f T,FC f=some T->aP Tryz.prog G f T:=cH (by simp only[List.forall_mem_cons];exact ⟨Ze,Ae,fun _ h=>absurd h (by simp)⟩)
theorem acv:FC 149=some Ah:=rfl
theorem acw:FC 150=some oT:=rfl
attribute [local simp] acv acw
noncomputable def AT:List I->Option I:=bl (fun p:List (Bool × List Nat)=>xi p) (fun p=>[.sl (p.map fun z=>fE z) false]) (fun p=> .bool (l8 p))
theorem acx {p:List (Bool × List Nat)} (h:xi p) {args:List I} (he:args.map I.loose= [.sl (p.map fun z=>fE z) false]):AT args=some (.bool (l8 p)):=
 bC (fun z w h=>by
  simp only[List.cons.injEq,I.sl.injEq,w2,and_true] at h
  rw[h]) p h he
theorem acy:aP Tryz.prog G 61 AT:=by
 refine bB mixed acu RG fun p aF=>?_
 obtain⟨aw,ar⟩:=aF
 unfold i61
 refine aL [0,2,3,7,15] fun F K=>?_
 obtain⟨f0,f2,f3,f7,f15⟩:=K
 have H:=trivial
 have K:=bw f0 f2 f3 f7 f15;clear f0 f2 f3 f7 f15
 refine bH [0,2,3,7,15] fun F k=>?_;clear K H
 obtain⟨f0,f2,f3,f7,f15⟩:=k
 refine iz p.length (fun i s=>o1 (p.take i)/\s.F 3=aR i) (fun _=>o1 p) (fun s=>¬o1 p/\s.F 2= .bool false) ?_ ?_ ?_ ?_
 · exact ⟨by simp[o1],f3⟩
 · rintro i s ab ag ⟨aK,fv⟩
   replace f0:=(ag 0 rfl).trans f0
   clear f3
   have f3:=fv
   have K:=bA f0 f3;clear f0 f3
   refine bL [0,2,3,7,15] fun F k=>?_;clear K
   obtain⟨f0,f2,f3,f7,f15⟩:=k
   by_cases aT:i<p.length
   · have aW:=AR aT
     have w_:p.take (i+1)=p.take i++ [p[i]]:=List.take_succ_eq_append_getElem aT
     have ot:=List.getElem_mem aT
     have t:=Zd p[i] (by have:=(ar _ ot).2;omega) (args:=[fE p[i]]) (by simp[yo])
     generalize p[i]=x at*
     cases b9:kH x.1 x.2<;>rw[b9] at t
     · skip
       have H:=bt aT aW t
       have K:=bw f0 f2 f3 f7 f15;clear f0 f2 f3 f7 f15
       refine bH [0,2,3,7,15] fun F k=>?_;clear K H
       obtain⟨f0,f2,f3,f7,f15⟩:=k
       exact fun h=>(by have:=h x ot;rw[b9] at this;cases this)
     · skip
       have H:=bt aT aW t
       have K:=bw f0 f2 f3 f7 f15;clear f0 f2 f3 f7 f15
       refine bH [0,2,3,7,15] fun F k=>?_;clear K H
       obtain⟨f0,f2,f3,f7,f15⟩:=k
       rw[w_]
       intro y aO
       rcases List.mem_append.1 aO with aO|aO
       · exact aK y aO
       · rw[List.mem_singleton.1 aO];exact b9
   · have lj:i=p.length:=by omega
     subst lj
     rw[List.take_length] at aK
     have H:=aT
     have K:=bw f0 f2 f3 f7 f15;clear f0 f2 f3 f7 f15
     refine bH [0,2,3,7,15] fun F k=>?_;clear K H
     obtain⟨f0,f2,f3,f7,f15⟩:=k
     exact aK
 · rintro s ag aK
   replace f0:=(ag 0 rfl).trans f0
   clear f3
   have vT:p.all (fun z=>kH z.1 z.2)=true:=List.all_eq_true.2 aK
   have K:=f0;clear f0
   refine bL [0,2] fun F k=>?_;clear K
   obtain⟨f0,f2⟩:=k
   by_cases aD:p= []
   · subst aD
     rw[show l8 []=true from rfl]
     have H:=trivial
     have K:=bA f0 f2;clear f0 f2
     exact a3 [0,2]
   · have aF:=List.length_pos_iff.2 aD
     have el:¬p.length=0:=by omega
     have jP:(p.length == 0)=false:=by simpa using el
     have ia:=AR (show p.length - 1<p.length by omega)
     have FA:p.getD (p.length - 1) (false,[])=p[p.length - 1]'(by omega):=by rw[List.getD_eq_getElem?_getD,List.getElem?_eq_getElem (by omega)];rfl
     have hm:p[p.length - 1]'(by omega)∈p:=List.getElem_mem _
     rw[show l8 p=decide ((p[p.length - 1]'(by omega)).2≠ []) by rw[l8,vT,FA,decide_eq_false aD];rfl]
     obtain⟨ao,aV⟩:=Oy (ar _ hm).1 (aK _ hm)
     have aG:=ar _ hm
     generalize p[p.length - 1]'(by omega)=x at*
     rw[ao] at ia
     have JQ:aY (cC x.1 (val x.2))<=1000000:=by
      rw[KB]
      exact ct.2 (Nat.lt_of_lt_of_le (oB aG.1) (lW aG.2))
     have t:=EP (cC x.1 (val x.2)) (by omega) (args:=[ax (cC x.1 (val x.2))]) (by simp)
     have bP:IntKind.i64.wrap (Z p.length - Z 1)=Z (p.length - 1):=cf (by omega) (by omega)
     by_cases ae:x.2= []
     · rw[aV.2 ae] at t
       rw[decide_eq_false (by simpa using ae)]
       generalize cC x.1 (val x.2)=y at*
       have H:=dW (@aD) el jP ia bP t
       have K:=bA f0 f2;clear f0 f2
       exact a3 [0,2]
     · have ow:¬h1 (cC x.1 (val x.2))=0:=fun h=>ae (aV.1 h)
       have FB:(h1 (cC x.1 (val x.2)) != Z 0)=true:=bne_iff_ne.2 ow
       rw[decide_eq_true ae]
       generalize h1 (cC x.1 (val x.2))=zG at*
       generalize cC x.1 (val x.2)=y at*
       have H:=e3 (@aD) el jP ia bP t ow FB
       have K:=bA f0 f2;clear f0 f2
       exact a3 [0,2]
 · rintro s ag ⟨aK,f2⟩
   rw[show l8 p=false by
    rw[l8]
    have:p.all (fun z=>kH z.1 z.2)=false:=by rw[<-Bool.not_eq_true];exact fun h=>aK (List.all_eq_true.1 h)
    rw[this];rfl]
   simp[f2]
end
end
section
set_option maxHeartbeats 8000000
open Go Go.Eng Go.RowKit Ser
attribute [local simp] aU.m aU.o aU.n aU.g eM dN cE ch cM evalOp.eq_1 evalOp.eq_2 evalOp.eq_3 evalOp.eq_4 evalOp.eq_5 evalOp.eq_6 evalOp.eq_7 evalOp.eq_8 evalOp.eq_9 evalOp.eq_10 evalOp.eq_11 evalOp.eq_12 evalOp.eq_13 evalOp.eq_14 evalOp.eq_15 evalOp.eq_16 evalOp.eq_17 evalOp.eq_18 evalOp.eq_19 evalOp.eq_20 evalOp.eq_21 evalOp.eq_22 evalOp.eq_23 evalOp.eq_24 evalOp.eq_25 evalOp.eq_27 evalOp.eq_28 evalOp.eq_29 hX aQ.ev cg an af.new ds I.cells I.bW I.dk I.dh fU fW fV fX fZ fY hh hi hj e7 e8 cut partOf bound elems hl hn ho hp hq hr hs ht hv hx hy hz fm hA hB hC hD hE hF hG hH hI hJ hK hL hM hN hO hP hQ hR hS hT hU hV hW dM dC dz eF f_ fz af.close af.set fB hY hZ h0 hk fA fy fa dP fj fL fk fl fM fN fO eC eD eE eB f' bD fJ ga fK gb gd eo gf ep gg gh gi e1 hg gj gk gl gm gn gp gq gr gu gv gw gx gy gz gA gB gC gD gE e_ gF gG gH gI gJ gK gL gM gN gO gP gQ gR gS gT
attribute [local simp high] hc hd hf gU gV gW gX gY gZ g0 g1 g2 g3 g4 g5 g6 g7 g8 g9 g_ g' ha hb
attribute [local simp] aD List.getElem?_cons_zero List.getElem?_cons_succ dc cf eY Nat.mod_eq_of_lt ig ih ij ik e2 il im iq
section
attribute [local irreducible] a7
attribute [local simp] c5 cZ lI ck jO
theorem acz {xs:List I} {n:Nat} (aq:xs.length=n) (aD:0<n) (aw:n<=1000000) (ae:(xs.all fun e=>e.cells.length == 2)=true) {y:I} (aO:([y].all fun e=>e.cells.length == 2&&e.cells.all I.bW)=true) (C:Nat->Option (List I)) (r q ey:Nat) (p:Nat->Option ff) (e:Bool) (aG:q<ey):
 jt r 2 32 ⟨an C q (some xs),fun _=>false,ey,p⟩ (.ref q 0 n n) (.sl [y] e)=some (.ref r 0 (n+1) (n+1),jJ r ⟨an C q (some xs),fun _=>false,ey,p⟩ (.ref q 0 n n) (xs++ [y]),.wr):=by
 subst aq
 have ak:bS 2 ⟨an C q (some xs),fun _=>false,ey,p⟩ (.ref q 0 xs.length xs.length) xs:=⟨fun _ _=>rfl,.inr ⟨aD,q,rfl,by simp[an],rfl,aG,ae⟩⟩
 exact w3 ak y aO aw ey r e
theorem AU {a:List Int} (U:a.length<=1000000) (h2:aZ a<=1000000) {args:List I} (he:args.map I.loose= [aC a false,aC a false]):pW args=some (.bool true):=by
 rw[Nm (a,a) ⟨⟨U,U⟩,h2,h2⟩ he];simp
theorem acA {a:List Int} (h:eU a):strip (a++ [0])=a:=uF h (by
 ext i
 rw[kb,kb]
 simp only[List.getD_eq_getElem?_getD]
 by_cases ab:i<a.length
 · rw[List.getElem?_append_left ab]
 · rw[List.getElem?_append_right (by omega),List.getElem?_eq_none (by omega)]
   cases lj:i - a.length with
   | zero=>simp
   | succ j=>simp)
noncomputable def kt:FuncId->Option (List I->Option I):=cA [(14,sf),(15,Ap),(16,uS),(56,AJ),(57,AH),(58,AQ),(59,AI),(60,AS),(61,AT),(62,uJ),(63,s9),(64,q6),(24,pW),(55,s0),(65,oX),(66,s3),(67,uV),(51,s4),(68,rh)]
theorem acB:∀f T,kt f=some T->aP Tryz.prog G f T:=cH (by simp only[List.forall_mem_cons];exact ⟨v',Z7,Nr,abD,abv,ab2,abx,acs,acy,MN,Nw,Ey,Nn,MT,As,MU,NN,MX,Fe,fun _ h=>absurd h (by simp)⟩)
theorem acC:kt 14=some sf:=rfl
theorem acD:kt 15=some Ap:=rfl
theorem acE:kt 16=some uS:=rfl
theorem acF:kt 56=some AJ:=rfl
theorem acG:kt 57=some AH:=rfl
theorem acH:kt 58=some AQ:=rfl
theorem acI:kt 59=some AI:=rfl
theorem acJ:kt 60=some AS:=rfl
theorem acK:kt 61=some AT:=rfl
theorem acL:kt 62=some uJ:=rfl
theorem acM:kt 63=some s9:=rfl
theorem acN:kt 64=some q6:=rfl
theorem acO:kt 24=some pW:=rfl
theorem acP:kt 55=some s0:=rfl
theorem acQ:kt 65=some oX:=rfl
theorem acR:kt 66=some s3:=rfl
theorem acS:kt 67=some uV:=rfl
theorem acT:kt 51=some s4:=rfl
theorem acU:kt 68=some rh:=rfl
attribute [local simp] acC acD acE acF acG acH acI acJ acK acL acM acN acO acP acQ acR acS acT acU
noncomputable def FD:List I->Option I:=bl (fun z:List (Bool × List Nat) × List (Bool × List Nat)=>nj z.1/\nj z.2) (fun z=>[kc z.1,kc z.2]) (fun _=> .bool true)
theorem acV {x y:List (Bool × List Nat)} (ae:nj x) (aO:nj y) {args:List I} (he:args.map I.loose= [kc x,kc y]):FD args=some (.bool true):=
 bC (fun _ _ _=>rfl) (x,y) ⟨ae,aO⟩ he
theorem iy:aP Tryz.prog G 7 FD:=by
 refine bB mixed acB b_ fun z ar=>?_
 obtain⟨x,y⟩:=z
 obtain⟨ae,aO⟩:=ar
 simp only at ae aO|-
 have p9:=Nt ae (args:=[kc x]) (by simp)
 have p_:=Nt aO (args:=[kc y]) (by simp)
 have jx:=w8 ae (args:=[kc x]) (by simp)
 have eA:=w8 aO (args:=[kc y]) (by simp)
 have fw:=w9 ae
 have iM:=w9 aO
 have mQ:=head_eq
 unfold i7
 cases aW:p1 x<;>rw[aW] at p9
 case true=>
  clear jx fw eA iM p_
  refine aL [0,1,4,5,6,7,8,9,10,11,12,13,14,15,16,17,24,86,112] fun F K=>?_
  obtain⟨f0,f1,f4,f5,f6,f7,f8,f9,f10,f11,f12,f13,f14,f15,f16,f17,f24,f86,f112⟩:=K
  have H:=bA mQ p9
  have K:=pr f0 f1 f4 f5 f6 f7 f8 f9 f10 f11 f12 f13 f14 f15 f16 f17 f24 f86 f112;clear f0 f1 f4 f5 f6 f7 f8 f9 f10 f11 f12 f13 f14 f15 f16 f17 f24 f86 f112
  exact a3 [0,1,4,5,6,7,8,9,10,11,12,13,14,15,16,17,24,86,112]
 case false=>
 cases cw:p1 y<;>rw[cw] at p_
 case true=>
  clear jx fw eA iM
  refine aL [0,1,4,5,6,7,8,9,10,11,12,13,14,15,16,17,24,86,112] fun F K=>?_
  obtain⟨f0,f1,f4,f5,f6,f7,f8,f9,f10,f11,f12,f13,f14,f15,f16,f17,f24,f86,f112⟩:=K
  have H:=bt mQ p9 p_
  have K:=pr f0 f1 f4 f5 f6 f7 f8 f9 f10 f11 f12 f13 f14 f15 f16 f17 f24 f86 f112;clear f0 f1 f4 f5 f6 f7 f8 f9 f10 f11 f12 f13 f14 f15 f16 f17 f24 f86 f112
  exact a3 [0,1,4,5,6,7,8,9,10,11,12,13,14,15,16,17,24,86,112]
 case false=>
 obtain⟨bE,cp⟩:=Z3 aW
 have FE:xi x:=⟨by omega,fun z ar=>⟨ae z ar,by have:=cp z ar;omega⟩⟩
 have bu:=acr FE (args:=[kc x]) (by simp)
 have c2:=acx FE (args:=[kc x]) (by simp)
 generalize lp x 10 4=a at*
 generalize lp y 10 4=b at*
 generalize l8 x=rx at*
 have U0:a.length<=10:=fw.len
 have bF:=fw.len
 have a':=iM.len
 have DF:=fw.le
 have jP:=iM.le
 have t1:=abC (a,b) ⟨⟨by simp only;omega,by simp only;omega⟩,⟨by simp only;omega,by simp only;omega⟩,fw.fin⟩ (args:=[aC a false,aC b false]) (by simp)
 have t2:=abu (a,b) ⟨⟨by simp only;omega,by simp only;omega⟩,by simp only;omega,by simp only;omega⟩ (args:=[aC a false,aC b false]) (by simp)
 have t3:=ab1 (a,b) ⟨⟨by simp only;omega,by simp only;omega⟩,⟨by simp only;omega,by simp only;omega⟩,fw.fin⟩ (args:=[aC a false,aC b false]) (by simp)
 have t4:=abw (a,b) ⟨⟨by simp only;omega,by simp only;omega⟩,by simp only;omega,by simp only;omega⟩ (args:=[aC a false,aC b false]) (by simp)
 simp only at t1 t2 t3 t4
 have d1:=Yn a (by omega) (args:=[aC a false]) (by simp)
 have d2:=w' a (by omega) (args:=[aC a false]) (by simp)
 have lo:=uK a (by omega) (args:=[aC a false]) (by simp)
 rw[My fw.fin] at lo
 have u5:=pX fw (by decide) (by decide) (args:=[aC a false,aC a false]) (by simp)
 have td:=uK (a++ [0]) (by simp;omega) (args:=[.sl ((a.map fun z=>ax z)++ [lJ]) false]) (by
  have bz:lJ.loose=ax 0:=by simp[eS,bc,bY,I.loose,kk]
  simp only[List.map_cons,List.map_nil,dP,List.map_append,nB,bz,aC]
  simp[Cz])
 rw[acA fw.fin] at td
 have ll:=Ao fw iM (by decide) (by decide) (by decide) (by decide) (args:=[aC a false,aC b false]) (by simp)
 have kY:=Aq (a,b) ⟨⟨by simp only;omega,by simp only;omega⟩,by simp only;omega,by simp only;omega⟩ (args:=[aC a false,aC b false]) (by simp)
 have pY:=pX (fw.add iM) (by decide) (by decide) (args:=[aC (eb a b) false,aC (eb a b) false]) (by simp)
 have pZ:=E7 fw iM (by decide) (by decide) (by decide) (by decide) (args:=[aC a false,aC b false]) (by simp)
 have p0:=Fb (a,b) ⟨⟨by simp only;omega,by simp only;omega⟩,by simp only;omega,by simp only;omega⟩ (args:=[aC a false,aC b false]) (by simp)
 have u6:=pX (fw.sub iM) (by decide) (by decide) (args:=[aC (h3 a b) false,aC (h3 a b) false]) (by simp)
 have u7:=ra fw iM (by decide) (by decide) (by decide) (by decide) (by decide) (args:=[aC a false,aC b false]) (by simp)
 have u8:=Fc (a,b) ⟨⟨by simp only;omega,by simp only;omega⟩,by simp only;omega,by simp only;omega⟩ (args:=[aC a false,aC b false]) (by simp)
 have u9:=pX (fw.mul iM (by decide)) (by decide) (by decide) (args:=[aC (b8 a b) false,aC (b8 a b) false]) (by simp)
 simp only at kY p0 u8
 obtain⟨⟨s1,s2⟩,kU,mo⟩:=abT (a:=a) (b:=b) (by omega) (by omega) (by omega) (by omega)
 have v1:=AU (a:=(ft a b).1) (by omega) (by omega) (args:=[aC (ft a b).1 false,aC (ft a b).1 false]) (by simp)
 have v2:=AU (a:=(ft a b).2) (by omega) (by omega) (args:=[aC (ft a b).2 false,aC (ft a b).2 false]) (by simp)
 have kr:=AU (a:=[]) (by simp) (by simp[aZ]) (args:=[.sl [] false,.sl [] false]) (by simp)
 have v4:∀q,iW a b=some q->pW [aC q false,aC q false]=some (.bool true):=fun q aG=>by
  obtain⟨U,h2⟩:=abU (by omega) (by omega) (by omega) (by omega) aG
  exact AU (a:=q) (by omega) (by omega) (by simp)
 generalize eb a b=x1 at*
 generalize h3 a b=x2 at*
 generalize b8 a b=dj at*
 generalize (ft a b).1=dw at*
 generalize (ft a b).2=dG at*
 have a_:(b= []/\iW a b=none)\/(b≠ []/\iW a b=none)\/∃q,b≠ []/\iW a b=some q:=by
  by_cases aa:b= []
  · exact .inl ⟨aa,by rw[aa];rfl⟩
  · cases h:iW a b with
    | none=>exact .inr (.inl ⟨aa,rfl⟩)
    | some q=>exact .inr (.inr ⟨q,aa,rfl⟩)
 have u_:=fun(r:Nat) (h:af) (v:I)=>Nb r h v (zs:=(a.map fun z=>ax z)++ [lJ]) (k:=a.length+1) (by simp) (by omega) (by rw[List.all_append,uO];rfl)
 have FF:=acz (xs:=a.map fun z=>ax z) (n:=a.length) (y:=lJ) (by simp)
 have FG:=fun(r:Nat) (h:af) (e:Bool)=>EY (l:=a) r h e
 have mN:=fun(r:Nat) (h:af) (e:Bool)=>(show jt r 2 32 h (.sl [] true) (.sl [lJ] e)=some (.ref r 0 1 1,h.new r [lJ],.fg) by simp[jt,elems,j1,I.cells,I.bW])
 clear fw iM bF a' DF jP s1 s2 kU mo FE bE cp
 rcases a_ with⟨aa,e⟩|⟨aa,e⟩|⟨q,aa,e⟩
 · rw[if_pos aa] at t1 t2
   rw[e,Option.isSome_none,if_neg Bool.false_ne_true] at t3 t4
   clear v4
   have v4:=kr
   by_cases ef:a= []
   · subst ef
     simp only[aC,List.map_nil,List.nil_append,List.length_nil,Nat.zero_add] at*
     have U:=Aj
     refine aL [0,1,4,5,6,7,8,9,10,11,12,13,14,15,16,17,24,86,112] fun F K=>?_
     obtain⟨f0,f1,f4,f5,f6,f7,f8,f9,f10,f11,f12,f13,f14,f15,f16,f17,f24,f86,f112⟩:=K
     have H:=yi mQ p9 p_ jx eA bu c2 t1 t2 t3 t4 d1 d2 (@lo) u5 td ll kY pY pZ p0 u6 u7 u8 u9 v1 v2 kr v4 U mN u_
     have K:=pr f0 f1 f4 f5 f6 f7 f8 f9 f10 f11 f12 f13 f14 f15 f16 f17 f24 f86 f112;clear f0 f1 f4 f5 f6 f7 f8 f9 f10 f11 f12 f13 f14 f15 f16 f17 f24 f86 f112
     exact a3 [0,1,4,5,6,7,8,9,10,11,12,13,14,15,16,17,24,86,112]
   · have rk:=List.length_pos_iff.2 ef
     have U:=fun r h e=>FG r h e ef (by omega)
     have h2:=FF rk (by omega) (by simp[I.cells]) (by decide)
     refine aL [0,1,4,5,6,7,8,9,10,11,12,13,14,15,16,17,24,86,112] fun F K=>?_
     obtain⟨f0,f1,f4,f5,f6,f7,f8,f9,f10,f11,f12,f13,f14,f15,f16,f17,f24,f86,f112⟩:=K
     have H:=yj mQ p9 p_ jx eA bu c2 t1 t2 t3 t4 d1 d2 (@lo) u5 td ll kY pY pZ p0 u6 u7 u8 u9 v1 v2 kr v4 U h2 u_ ef rk
     have K:=pr f0 f1 f4 f5 f6 f7 f8 f9 f10 f11 f12 f13 f14 f15 f16 f17 f24 f86 f112;clear f0 f1 f4 f5 f6 f7 f8 f9 f10 f11 f12 f13 f14 f15 f16 f17 f24 f86 f112
     exact a3 [0,1,4,5,6,7,8,9,10,11,12,13,14,15,16,17,24,86,112]
 · rw[if_neg aa] at t1 t2
   rw[e,Option.isSome_none,if_neg Bool.false_ne_true] at t3 t4
   clear v4
   have v4:=kr
   by_cases ef:a= []
   · subst ef
     simp only[aC,List.map_nil,List.nil_append,List.length_nil,Nat.zero_add] at*
     have U:=Aj
     refine aL [0,1,4,5,6,7,8,9,10,11,12,13,14,15,16,17,24,86,112] fun F K=>?_
     obtain⟨f0,f1,f4,f5,f6,f7,f8,f9,f10,f11,f12,f13,f14,f15,f16,f17,f24,f86,f112⟩:=K
     have H:=yi mQ p9 p_ jx eA bu c2 t1 t2 t3 t4 d1 d2 (@lo) u5 td ll kY pY pZ p0 u6 u7 u8 u9 v1 v2 kr v4 U mN u_
     have K:=pr f0 f1 f4 f5 f6 f7 f8 f9 f10 f11 f12 f13 f14 f15 f16 f17 f24 f86 f112;clear f0 f1 f4 f5 f6 f7 f8 f9 f10 f11 f12 f13 f14 f15 f16 f17 f24 f86 f112
     exact a3 [0,1,4,5,6,7,8,9,10,11,12,13,14,15,16,17,24,86,112]
   · have rk:=List.length_pos_iff.2 ef
     have U:=fun r h e=>FG r h e ef (by omega)
     have h2:=FF rk (by omega) (by simp[I.cells]) (by decide)
     refine aL [0,1,4,5,6,7,8,9,10,11,12,13,14,15,16,17,24,86,112] fun F K=>?_
     obtain⟨f0,f1,f4,f5,f6,f7,f8,f9,f10,f11,f12,f13,f14,f15,f16,f17,f24,f86,f112⟩:=K
     have H:=yj mQ p9 p_ jx eA bu c2 t1 t2 t3 t4 d1 d2 (@lo) u5 td ll kY pY pZ p0 u6 u7 u8 u9 v1 v2 kr v4 U h2 u_ ef rk
     have K:=pr f0 f1 f4 f5 f6 f7 f8 f9 f10 f11 f12 f13 f14 f15 f16 f17 f24 f86 f112;clear f0 f1 f4 f5 f6 f7 f8 f9 f10 f11 f12 f13 f14 f15 f16 f17 f24 f86 f112
     exact a3 [0,1,4,5,6,7,8,9,10,11,12,13,14,15,16,17,24,86,112]
 · rw[if_neg aa] at t1 t2
   rw[e,Option.isSome_some,if_pos rfl,Option.getD_some] at t3 t4
   replace v4:=v4 q e
   by_cases ef:a= []
   · subst ef
     simp only[aC,List.map_nil,List.nil_append,List.length_nil,Nat.zero_add] at*
     have U:=Aj
     refine aL [0,1,4,5,6,7,8,9,10,11,12,13,14,15,16,17,24,86,112] fun F K=>?_
     obtain⟨f0,f1,f4,f5,f6,f7,f8,f9,f10,f11,f12,f13,f14,f15,f16,f17,f24,f86,f112⟩:=K
     have H:=yi mQ p9 p_ jx eA bu c2 t1 t2 t3 t4 d1 d2 (@lo) u5 td ll kY pY pZ p0 u6 u7 u8 u9 v1 v2 kr v4 U mN u_
     have K:=pr f0 f1 f4 f5 f6 f7 f8 f9 f10 f11 f12 f13 f14 f15 f16 f17 f24 f86 f112;clear f0 f1 f4 f5 f6 f7 f8 f9 f10 f11 f12 f13 f14 f15 f16 f17 f24 f86 f112
     exact a3 [0,1,4,5,6,7,8,9,10,11,12,13,14,15,16,17,24,86,112]
   · have rk:=List.length_pos_iff.2 ef
     have U:=fun r h e=>FG r h e ef (by omega)
     have h2:=FF rk (by omega) (by simp[I.cells]) (by decide)
     refine aL [0,1,4,5,6,7,8,9,10,11,12,13,14,15,16,17,24,86,112] fun F K=>?_
     obtain⟨f0,f1,f4,f5,f6,f7,f8,f9,f10,f11,f12,f13,f14,f15,f16,f17,f24,f86,f112⟩:=K
     have H:=yj mQ p9 p_ jx eA bu c2 t1 t2 t3 t4 d1 d2 (@lo) u5 td ll kY pY pZ p0 u6 u7 u8 u9 v1 v2 kr v4 U h2 u_ ef rk
     have K:=pr f0 f1 f4 f5 f6 f7 f8 f9 f10 f11 f12 f13 f14 f15 f16 f17 f24 f86 f112;clear f0 f1 f4 f5 f6 f7 f8 f9 f10 f11 f12 f13 f14 f15 f16 f17 f24 f86 f112
     exact a3 [0,1,4,5,6,7,8,9,10,11,12,13,14,15,16,17,24,86,112]
end
end
end Go.Proofs.YtemiagcencajeaaGreatDoor
