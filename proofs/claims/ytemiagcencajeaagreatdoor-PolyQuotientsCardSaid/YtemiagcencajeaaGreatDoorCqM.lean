/- What the claim needs of the walks, put together by a program (shake.py). -/
import Derived.Test.YtemiagcencajeaaGreatDoorCqL
set_option maxRecDepth 100000
set_option linter.unusedSimpArgs false
set_option linter.unusedVariables false
set_option linter.unusedSectionVars false
namespace Go.Proofs.YtemiagcencajeaaGreatDoor
section
set_option maxHeartbeats 8000000
open Go Go.Eng Go.RowKit Ser
structure om (a b:List Int) (n m L:Nat) (c1 cJ:List (Int × Bool)):Prop where
 ex:∃Q R,mj b m (Q,R)=rP a b/\bd (zs c1)=bd Q/\bd (zs cJ)=bd R
 fD:c1.length=n
 gj:cJ.length=a.length
 z:∀j,j<m->(zs c1).getD j 0=0
 top:if m=n then (zs cJ).getD (a.length - 1) 0≠0 else (zs c1).getD (n - 1) 0≠0
 dL:∀j,a' ((zs cJ).getD j 0)<=L
theorem om.stop {a b:List Int} {n m L:Nat} {c1 cJ:List (Int × Bool)} (cz:om a b n (m+1) L c1 cJ) (aa:b≠ []) (h:lead b=0\/(zs cJ).getD (m+(b.length - 1)) 0%lead b≠0):fW a b=none:=by
 obtain⟨Q,R,e,-,aU⟩:=cz.ex
 rw[A0 aU] at h
 rw[mj,FQ h] at e
 rw[tq aa,<-e];rfl
theorem om.step {a b:List Int} {n m L:Nat} {c1 cJ o:List (Int × Bool)} (cz:om a b n (m+1) L c1 cJ) (aa:b≠ []) (az:n=a.length+1 - b.length) (hm:m<n) {c:Int} {ec:Bool} (h:¬(lead b=0\/(zs cJ).getD (m+(b.length - 1)) 0%lead b≠0)) (I:c=(zs cJ).getD (m+(b.length - 1)) 0/lead b)
 (aL:∀j,(zs o).getD j 0=(zs cJ).getD j 0 -(if m<=j/\j<m+b.length then c*b.getD (j - m) 0 else 0)) (aG:o.length=a.length) (mx:a' c<=L):
 om a b n m (L+bc b+1) (c1.set m (c,ec)) o:=by
 have aS:=List.length_pos_iff.2 aa
 obtain⟨⟨Q,R,e,aT,aU⟩,fD,gj,z,top,dL⟩:=cz
 have vI:(zs c1).length=n:=by rw[n8,fD]
 have mB:zs (c1.set m (c,ec))=(zs c1).set m c:=wW _ _ _
 have h':=h
 rw[A0 aU] at h'
 have FX:c=R.getD (m+(b.length - 1)) 0/lead b:=by rw[I,A0 aU]
 rw[mj,OA h',<-FX] at e
 refine⟨⟨dI Q (term c m),fE R (b2 (term c m) b),e,?_,?_⟩,by rw[List.length_set,fD],aG,fun j aO=>?_,?_,fun j=>?_⟩
 · rw[mB,EK (by omega),z m (by omega),mi,rv,aT]
   congr 2;omega
 · ext j
   rw[ku,aL,o4,jB,rv,<-aU,zW,z1,ku,ku]
   by_cases U:j<m
   · rw[if_neg (by omega),if_pos U]
   · rw[if_neg U]
     by_cases h2:j<m+b.length
     · rw[if_pos ⟨by omega,h2⟩]
     · rw[if_neg (by omega),mO (l:=b) (by omega)];simp
 · rw[mB,u0 _ _ _ _ (by omega),if_neg (by omega)];exact z j (by omega)
 · rw[if_neg (by omega),mB,u0 _ _ _ _ (by omega)]
   by_cases U:n - 1=m
   · rw[if_pos U]
     rw[if_pos (by omega)] at top
     have au:m+(b.length - 1)=a.length - 1:=by omega
     rw[<-au] at top
     rintro aQ
     rw[I] at aQ
     refine h (.inr ?_)
     intro aN
     have:=Int.ediv_mul_cancel (Int.dvd_of_emod_eq_zero aN)
     rw[aQ,Int.zero_mul] at this
     exact top this.symm
   · rw[if_neg U]
     rwa [if_neg (by omega)] at top
 · rw[aL]
   have U:=dL j
   split
   · have aN:=kt c (b.getD (j - m) 0)
     have a8:=ew b (j - m)
     have cr:=Dp ((zs cJ).getD j 0) (c*b.getD (j - m) 0)
     omega
   · rw[Int.sub_zero];omega
theorem om.init {a b:List Int} {n:Nat} (aV:dn a) (aa:b≠ []) (az:n=a.length+1 - b.length) (aG:b.length<=a.length):om a b n n (bc a) (List.replicate n (0,true)) (a.map fun z=>(z,false)):=by
 have aS:=List.length_pos_iff.2 aa
 refine⟨⟨[],a,by rw[az];rfl,?_,by rw[wV]⟩,by simp,by simp,fun j _=>?_,?_,fun j=>by rw[wV];exact ew a j⟩
 · rw[zs,List.map_replicate,zZ,k4]
 · rw[zs,List.map_replicate]
   simp only[List.getD_eq_getElem?_getD,List.getElem?_replicate];split<;>rfl
 · rw[if_pos rfl,wV]
   rcases aV with rfl|h
   · have aQ:b.length<=0:=aG
     omega
   · exact h
theorem om.fin {a b:List Int} {n L:Nat} {c1 cJ:List (Int × Bool)} (cz:om a b n 0 L c1 cJ) (aV:dn a) (aa:b≠ []) (az:0<n):fW a b=if strip (zs cJ)= [] then some (zs c1) else none:=by
 obtain⟨⟨Q,R,e,aT,aU⟩,fD,-,-,top,-⟩:=cz
 have h:=EW (a.length+1 - b.length) [] a (Q,R) (.inl rfl) aV e.symm
 rw[if_neg (by omega)] at top
 have U:zs c1=Q:=lF (.inr (by rw[n8,fD];exact top)) h.1 aT
 have h2:strip (zs cJ)=R:=tf h.2.1 aU.symm
 rw[tq aa,<-e,U,h2];rfl
end
section
set_option maxHeartbeats 8000000
open Go Go.Eng Go.RowKit
def mq (p:List (Bool × List Nat)):Bool:=p.all (fun z=>kZ z.1 z.2)&&(decide (p= [])||decide ((p.getD (p.length - 1) (false,[])).2≠ []))
def pg (p:List (Bool × List Nat)):Prop:=∀x∈p,kZ x.1 x.2=true
theorem OV {z:Bool × List Nat} (aE:Small z.2) (h:kZ z.1 z.2=true):fM z=aH (cC z.1 (val z.2))/\(gg (cC z.1 (val z.2))=0↔z.2= []):=by
 obtain⟨b,l⟩:=z
 simp only[kZ,lN,Bool.and_eq_true,decide_eq_true_eq,Bool.not_eq_true',Bool.and_eq_false_imp,decide_eq_false_iff_not] at h aE|-
 have aG:ad (val l)=l:=CN aE (h.1.imp id And.right)
 have aF:val l=0↔l= []:=by
  constructor
  · intro aQ;rw[<-aG,aQ,e_]
  · rintro rfl;rw[<-e_,cB]
 constructor
 · show fM (b,l)=_
   simp only[fM,aH,ai,Df,y5,aG]
   congr 3
   by_cases e:l= []
   · cases b
     · rfl
     · exact absurd e (h.2 rfl)
   · have:decide (val l≠0)=true:=decide_eq_true fun aQ=>e (aF.1 aQ)
     rw[this,Bool.and_true]
 · rw[<-aF]
   simp only[gg,cC]
   cases b<;>simp only[if_true,Bool.false_eq_true,if_false]<;>(split<;>(try split))<;>omega
end
section
set_option maxHeartbeats 8000000
open Go Go.Eng Go.RowKit Ser
theorem nB.size {a b:List Int} (aa:b.length<=100) (dU:bc b<=1000):∀(m L:Nat) (Q R:List Int),nB a b L m Q R->m<=101->((dx a b).1.length<=101/\(dx a b).2.length<=201)/\bc (dx a b).1<=1000+L+m*1003/\bc (dx a b).2<=1000+L+m*1003
 | 0,L,Q,R,av,_=>by
   rw[<-av.eq]
   exact ⟨⟨av.fD,av.gj⟩,by have:=av.ts;simp only[mP];omega,by have:=av.dL;simp only[mP];omega⟩
 | m+1,L,Q,R,av,hm=>by
   have h:=nB.size aa dU m _ _ _ (av.step aa dU (by omega) rfl rfl) (by omega)
   exact ⟨h.1,by omega,by omega⟩
theorem acu {a b:List Int} (bQ:a.length<=100) (bm:b.length<=100) (iO:bc a<=1000) (dU:bc b<=1000):((dx a b).1.length<=101/\(dx a b).2.length<=201)/\bc (dx a b).1<=102303/\bc (dx a b).2<=102303:=by
 by_cases aa:b= []
 · subst aa
   have h:=nB.size (a:=a) (b:=[]) (by simp) (by simp[bc]) (a.length+1) 0 [] a ⟨rfl,by simp,by omega,by simp[bc],by omega⟩ (by omega)
   exact ⟨h.1,by omega,by omega⟩
 · have aS:=List.length_pos_iff.2 aa
   have h:=nB.size bm dU (a.length+1 - b.length) 0 [] a ⟨rfl,by simp,by omega,by simp[bc],by omega⟩ (by omega)
   exact ⟨h.1,by omega,by omega⟩
theorem pf.size {a b:List Int} (aa:b.length<=100) (dU:bc b<=1000) {q:List Int} {r:List Int} (he:rP a b=some (q,r)):∀(m L:Nat) (Q R:List Int),pf a b L m Q R->m<=101->q.length<=101/\bc q<=1000+L+m*1003
 | 0,L,Q,R,av,_=>by
   have e:=av.eq
   rw[he] at e
   cases e
   exact ⟨av.fD,by have:=av.ts;omega⟩
 | m+1,L,Q,R,av,hm=>by
   by_cases h:lead b=0\/R.getD (m+(b.length - 1)) 0%lead b≠0
   · have e:=av.eq
     rw[mj,FQ h,he] at e
     cases e
   · have h2:=pf.size aa dU he m _ _ _ (av.step aa dU (by omega) rfl h rfl).1 (by omega)
     exact ⟨h2.1,by omega⟩
theorem acv {a b q:List Int} (bQ:a.length<=100) (bm:b.length<=100) (iO:bc a<=1000) (dU:bc b<=1000) (h:fW a b=some q):q.length<=101/\bc q<=102303:=by
 by_cases aa:b= []
 · subst aa;cases h
 · have aS:=List.length_pos_iff.2 aa
   rw[tq aa,Option.bind_eq_some_iff] at h
   obtain⟨⟨l2,r⟩,U,h2⟩:=h
   simp only at h2
   split at h2
   · cases h2
     have aN:=pf.size bm dU U (a.length+1 - b.length) 0 [] a ⟨rfl,by simp,by omega,by simp[bc],by omega⟩ (by omega)
     exact ⟨aN.1,by omega⟩
   · cases h2
end
section
set_option maxHeartbeats 8000000
open Go Go.Eng Go.RowKit Ser
theorem acw {a b:List Int} (aV:dn a) (aa:b≠ []):dn (dx a b).1/\dn (dx a b).2/\(dx a b).2.length<=b.length - 1/\dI (b2 (dx a b).1 b) (dx a b).2=dw a (lead b^(a.length+1 - b.length)):=by
 have aS:=List.length_pos_iff.2 aa
 have h:=EV aa (a.length+1 - b.length) [] a (.inl rfl) aV (by omega)
 rw[<-dx] at h
 refine⟨h.1,h.2.1,h.2.2.1,lF (og _ _) (YD _ _) ?_⟩
 rw[mi,jB,ru,h.2.2.2,k4];grind
theorem acx {b c l:List Int} (aa:dn b) (c8:b≠ []) (I:dn c) (aG:dn l) (hlen:l.length<=b.length - 1):(fW (dI (b2 b c) l) b).isSome=decide (l= []):=by
 have aS:=List.length_pos_iff.2 c8
 by_cases h:l= []
 · subst h
   have e:fW (dI (b2 b c) []) b=some c:=M5 (og _ _) aa c8 I (by rw[mi,jB,k4];grind)
   rw[e];rfl
 · rw[decide_eq_false h]
   cases bk:fW (dI (b2 b c) l) b with
   | none=>rfl
   | some d=>
     obtain⟨-,afa,e⟩:=YL (og _ _) bk
     rw[mi,jB] at e
     have ax:bd l=bd (fE d c)*bd b:=by rw[o4];grind
     have a9:l=b2 (fE d c) b:=lF aG (oh _ _) (by rw[jB,ax])
     by_cases aQ:fE d c= []
     · rw[aQ,M3] at a9;exact absurd a9 h
     · have:=ET (p_ d c) aa aQ c8
       have:=List.length_pos_iff.2 aQ
       rw[a9] at hlen
       omega
theorem acy {a b:List Int} (bQ:a.length<=10) (bm:b.length<=100) (iO:bc a<=1000) (dU:bc b<=1000) (aa:b≠ []):((dx a b).1.length<=101/\(dx a b).2.length<=201)/\bc (dx a b).1<=12000/\bc (dx a b).2<=12000:=by
 have aS:=List.length_pos_iff.2 aa
 have h:=nB.size bm dU (a.length+1 - b.length) 0 [] a ⟨rfl,by simp,by omega,by simp[bc],by omega⟩ (by omega)
 exact ⟨h.1,by omega,by omega⟩
end
section
set_option maxHeartbeats 8000000
open Go Go.Eng Go.RowKit Ser
attribute [local simp] a_.m a_.o a_.n a_.g e6 ez c2 cE c4 evalOp.eq_1 evalOp.eq_2 evalOp.eq_3 evalOp.eq_4 evalOp.eq_5 evalOp.eq_6 evalOp.eq_7 evalOp.eq_8 evalOp.eq_9 evalOp.eq_10 evalOp.eq_11 evalOp.eq_12 evalOp.eq_13 evalOp.eq_14 evalOp.eq_15 evalOp.eq_16 evalOp.eq_17 evalOp.eq_18 evalOp.eq_19 evalOp.eq_20 evalOp.eq_21 evalOp.eq_22 evalOp.eq_23 evalOp.eq_24 evalOp.eq_25 evalOp.eq_27 evalOp.eq_28 evalOp.eq_29 ie a6.ev cD aw af.new dW J.cells J.ch J.dO J.dJ gk gm gl gn gq gp hA hB hC ft fu cut partOf bound elems hE hF hG hH hI hJ hK hL hM hN hO hP fJ hQ hR hS hT hU hV hW hX hY hZ h0 h1 h3 h4 h5 h6 h7 h8 h9 h_ ia ib ic ey eh d_ e1 gr fS af.close af.set fU ig ih ij hD fT fR fy ee fH ga fh fI gb gd gf eY eZ e0 eW gu bP f_ gv f' gw gx eQ gy eR gz gA gB fl hz gC gD gE gF gG gH gI gJ gK gL gM gN gO gP gQ gR gS gT gU fx gV gW gX gY gZ g0 g1 g2 g3 g4 g5 g6 g7 g8 g9
attribute [local simp high] hv hx hy g_ g' ha hb hc hd hf hg hh hi hj hk hl hn ho hp hq hr hs ht
attribute [local simp] aQ List.getElem?_cons_zero List.getElem?_cons_succ dC cA fg Nat.mod_eq_of_lt iE iF iG iH fm iI iJ iK
section
attribute [local irreducible] br
attribute [local simp] di db cB jS
noncomputable def tu:FuncId->Option (List J->Option J):=cT [(115,zU),(52,rp),(143,sQ),(64,rA)]
theorem acz:∀f T,tu f=some T->a3 Tryz.prog G f T:=cX (by simp only[List.forall_mem_cons];exact ⟨Yu,Eb,K8,EZ,fun _ h=>absurd h (by simp)⟩)
theorem acA:tu 115=some zU:=rfl
theorem acB:tu 52=some rp:=rfl
theorem acC:tu 143=some sQ:=rfl
theorem acD:tu 64=some rA:=rfl
theorem acE:tu 118=none:=rfl
attribute [local simp] acA acB acC acD acE
def OW (a b:List Int) (n m:Nat) (s:aW):Prop:=∃mn kR c1 cJ L,s.F 7= .ref kR 0 a.length a.length/\s.F 8= .ref mn 0 n n/\iN s.h kR cJ/\iN s.h mn c1/\kR≠mn/\om a b n m L c1 cJ/\L<=1000+(n - m)*49/\m<=n/\∀j,s.h.next<=j->s.h.shut j=false
def OX (a b:List Int) (mn kR eO:Nat) (c1 cJ:List (Int × Bool)) (m:Nat) (c:Int × Bool) (i:Nat) (s:aW):Prop:=∃o,iN s.h kR o/\iN s.h mn c1/\o.length=a.length/\(∀j,(zs o).getD j 0=(zs cJ).getD j 0 -(if m<=j/\j<m+i then c.1*b.getD (j - m) 0 else 0))/\s.h.cells eO=some [dv c]/\eO<s.h.next/\∀j,s.h.next<=j->s.h.shut j=false
noncomputable def vn:List J->Option J:=bu (fun z:List Int × List Int=>(z.1.length<=100/\z.2.length<=100)/\(bc z.1<=1000/\bc z.2<48)/\dn z.1) (fun z=>[aM z.1 false,aM z.2 false]) (fun z=>if (fW z.1 z.2).isSome then .bD [aM ((fW z.1 z.2).getD []) false,.bool true] else .bD [aM [] false,.bool false])
theorem F3 (z:List Int × List Int) (h:(z.1.length<=100/\z.2.length<=100)/\(bc z.1<=1000/\bc z.2<48)/\dn z.1) {args:List J} (he:args.map J.loose= [aM z.1 false,aM z.2 false]):vn args=some (if (fW z.1 z.2).isSome then .bD [aM ((fW z.1 z.2).getD []) false,.bool true] else .bD [aM [] false,.bool false]):=bM (fun z w h=>by simp only[List.cons.injEq,J.int.injEq,J.bool.injEq,J.sl.injEq,cI,cH,cU,cV,cP,bY,cf,cO,bP,true_and,and_true] at h;simp[h]) z h he
theorem OY:a3 Tryz.prog G 58 vn:=by
 refine bK mixed acz IG fun z ay=>?_
 obtain⟨a,b⟩:=z
 obtain⟨⟨bQ,bm⟩,⟨iO,dU⟩,qe⟩:=ay
 simp only at bQ bm iO dU qe|-
 unfold i58
 by_cases aa:b= []
 · subst aa
   rw[show fW a []=none from rfl,Option.isSome_none,if_neg Bool.false_ne_true]
   refine aX [0,1,4,5,6,7,8,9,10,11,12,13,16,23,34,56,61,62,63,64,87] fun F K=>?_
   obtain⟨f0,f1,f4,f5,f6,f7,f8,f9,f10,f11,f12,f13,f16,f23,f34,f56,f61,f62,f63,f64,f87⟩:=K
   have H:=trivial
   have K:=sv f0 f1 f4 f5 f6 f7 f8 f9 f10 f11 f12 f13 f16 f23 f34 f56 f61 f62 f63 f64 f87;clear f0 f1 f4 f5 f6 f7 f8 f9 f10 f11 f12 f13 f16 f23 f34 f56 f61 f62 f63 f64 f87
   repeat' (first|refine ak ?_|refine al ?_|((first|refine aI ?_|refine aJ ?_|refine aK ?_|exact ao|refine an ?_);try(refine ar [0,1,4,5,6,7,8,9,10,11,12,13,16,23,34,56,61,62,63,64,87] fun F k=>?_;replace K:=k;clear k))|(refine aq (fun I=>?_) (fun I=>?_)<;>first|(exfalso;simp(disch:=omega) [H] at I;done)|(exfalso;simp at I;omega)|simp at I)|exact aB|refine aA ?_|exact aD|refine aC ?_|exact trivial)
   all_goals obtain⟨f0,f1,f4,f5,f6,f7,f8,f9,f10,f11,f12,f13,f16,f23,f34,f56,f61,f62,f63,f64,f87⟩:=K
 have aS:=List.length_pos_iff.2 aa
 have el:¬b.length=0:=by omega
 have jj:(b.length == 0)=false:=by simpa using el
 by_cases aE:a.length<b.length
 · have cF:IntKind.i64.wrap (Z a.length - Z b.length)=(a.length:Int) - b.length:=by rw[wrap_i64 (by simp only[Z];omega) (by simp only[Z];omega)];rfl
   have e5:((a.length:Int) - b.length<Z 0)=True:=eq_true (by simp only[Z];omega)
   have FV:rP a b=some ([],a):=by rw[rP,show a.length+1 - b.length=0 by omega];rfl
   have oj:fW a b=if a= [] then some [] else none:=by rw[tq aa,FV];rfl
   rw[oj]
   by_cases aV:a= []
   · subst aV
     rw[if_pos rfl,Option.isSome_some,if_pos rfl]
     have sk:IntKind.i64.wrap (Z 0 - Z b.length)=((0:Nat):Int) - b.length:=cF
     rw[show ((([]:List Int).length:Nat):Int) - b.length=((0:Nat):Int) - b.length from rfl] at e5
     clear cF
     generalize ((0:Nat):Int) - b.length=p0 at*
     refine aX [0,1,4,5,6,7,8,9,10,11,12,13,16,23,34,56,61,62,63,64,87] fun F K=>?_
     obtain⟨f0,f1,f4,f5,f6,f7,f8,f9,f10,f11,f12,f13,f16,f23,f34,f56,f61,f62,f63,f64,f87⟩:=K
     have H:=b7 el jj sk e5
     have K:=sv f0 f1 f4 f5 f6 f7 f8 f9 f10 f11 f12 f13 f16 f23 f34 f56 f61 f62 f63 f64 f87;clear f0 f1 f4 f5 f6 f7 f8 f9 f10 f11 f12 f13 f16 f23 f34 f56 f61 f62 f63 f64 f87
     repeat' (first|refine ak ?_|refine al ?_|((first|refine aI ?_|refine aJ ?_|refine aK ?_|exact ao|refine an ?_);try(refine ar [0,1,4,5,6,7,8,9,10,11,12,13,16,23,34,56,61,62,63,64,87] fun F k=>?_;replace K:=k;clear k))|(refine aq (fun I=>?_) (fun I=>?_)<;>first|(exfalso;simp(disch:=omega) [H] at I;done)|(exfalso;simp at I;omega)|simp at I)|exact aB|refine aA ?_|exact aD|refine aC ?_|exact trivial)
     all_goals obtain⟨f0,f1,f4,f5,f6,f7,f8,f9,f10,f11,f12,f13,f16,f23,f34,f56,f61,f62,f63,f64,f87⟩:=K
   · rw[if_neg aV,Option.isSome_none,if_neg Bool.false_ne_true]
     have fs:¬a.length=0:=fun h=>aV (List.length_eq_zero_iff.1 h)
     have acF:(a.length == 0)=false:=by simpa using fs
     generalize (a.length:Int) - b.length=p0 at*
     refine aX [0,1,4,5,6,7,8,9,10,11,12,13,16,23,34,56,61,62,63,64,87] fun F K=>?_
     obtain⟨f0,f1,f4,f5,f6,f7,f8,f9,f10,f11,f12,f13,f16,f23,f34,f56,f61,f62,f63,f64,f87⟩:=K
     have H:=dN el jj cF e5 fs acF aV
     have K:=sv f0 f1 f4 f5 f6 f7 f8 f9 f10 f11 f12 f13 f16 f23 f34 f56 f61 f62 f63 f64 f87;clear f0 f1 f4 f5 f6 f7 f8 f9 f10 f11 f12 f13 f16 f23 f34 f56 f61 f62 f63 f64 f87
     repeat' (first|refine ak ?_|refine al ?_|((first|refine aI ?_|refine aJ ?_|refine aK ?_|exact ao|refine an ?_);try(refine ar [0,1,4,5,6,7,8,9,10,11,12,13,16,23,34,56,61,62,63,64,87] fun F k=>?_;replace K:=k;clear k))|(refine aq (fun I=>?_) (fun I=>?_)<;>first|(exfalso;simp(disch:=omega) [H] at I;done)|(exfalso;simp at I;omega)|simp at I)|exact aB|refine aA ?_|exact aD|refine aC ?_|exact trivial)
     all_goals obtain⟨f0,f1,f4,f5,f6,f7,f8,f9,f10,f11,f12,f13,f16,f23,f34,f56,f61,f62,f63,f64,f87⟩:=K
 have cF:IntKind.i64.wrap (Z a.length - Z b.length)=Z (a.length - b.length):=cA (by omega) (by omega)
 have b3:IntKind.i64.wrap (Z b.length - Z 1)=Z (b.length - 1):=cA (by omega) (by omega)
 obtain⟨n,az⟩:∃n,n=a.length+1 - b.length:=⟨_,rfl⟩
 have oc:IntKind.i64.wrap (Z (a.length - b.length)+Z 1)=Z n:=by rw[dC (by omega)];congr 1;omega
 have fC:=p' (show b.length - 1<b.length by omega)
 rw[show b.getD (b.length - 1) 0=lead b from rfl] at fC
 obtain⟨l,aG⟩:∃l,l=lead b:=⟨_,rfl⟩
 rw[<-aG] at fC
 have eC:a≠ []:=by rintro rfl;exact aE aS
 obtain⟨v,h',au,r,rfl,aU,V,K⟩:=OM (tab:=tu) [] ⟨fun _=>none,fun _=>false,20,fun _=>none⟩ (fun _ _=>rfl) eC (by omega) (e:=false)
 have nx:Z n*32<=140737488355328:=by simp only[Z];omega
 have pY:=K.next
 have qq:h'.shut=fun _=>false:=K.shut
 simp only at aU pY
 refine aX [0,1,4,5,6,7,8,9,10,11,12,13,16,23,34,56,61,62,63,64,87] fun F K=>?_
 obtain⟨f0,f1,f4,f5,f6,f7,f8,f9,f10,f11,f12,f13,f16,f23,f34,f56,f61,f62,f63,f64,f87⟩:=K
 have H:=iT el jj b3 cF oc fC au nx (@sZ) qq
 have K:=sv f0 f1 f4 f5 f6 f7 f8 f9 f10 f11 f12 f13 f16 f23 f34 f56 f61 f62 f63 f64 f87;clear f0 f1 f4 f5 f6 f7 f8 f9 f10 f11 f12 f13 f16 f23 f34 f56 f61 f62 f63 f64 f87
 repeat' (first|refine ak ?_|refine al ?_|((first|refine b4 ?_|refine b5 ?_|refine b6 ?_|exact ao|refine an ?_);try(refine ar [0,1,4,5,6,7,8,9,10,11,12,13,16,23,34,56,61,62,63,64,87] fun F k=>?_;replace K:=k;clear k))|(refine aq (fun I=>?_) (fun I=>?_)<;>first|(exfalso;simp(disch:=omega) [H] at I;done)|(exfalso;simp at I;omega)|simp at I)|exact aB|refine aA ?_|exact aD|refine aC ?_|exact trivial)
 all_goals obtain⟨f0,f1,f4,f5,f6,f7,f8,f9,f10,f11,f12,f13,f16,f23,f34,f56,f61,f62,f63,f64,f87⟩:=K
 have acG:Z (a.length - b.length)=eJ n:=by simp only[Z,eJ];omega
 have afb:=V.dj
 refine mZ (fun m s=>OW a b n m s/\s.F 9= .int .i64 (eJ m)) (OW a b n 0) (fun s=>fW a b=none/\s.F 4= .sl [] true/\s.F 5= .bool false) n ?_ ?_ ?_ ?_
 · refine⟨⟨17,r,List.replicate n (0,true),a.map fun z=>(z,false),bc a,f7,f8,by have aQ:=V.off (q:=17) (by omega) (some (da (List.replicate n (0,true)))) (h'.next+2) h'.a7 (by omega);rw[qq] at aQ;exact aQ,⟨by simp only[aw,if_true],rfl,by simp only;omega⟩,by omega,om.init qe aa az (by omega),by omega,Nat.le_refl _,fun _ _=>rfl⟩,by rw[<-acG];exact f9⟩
 · rintro m s ag ⟨⟨mn,kR,c1,cJ,L,eK,eT,nC,qs,bV,cz,bq,lp,b8⟩,q6⟩
   replace f1:=(ag 1 rfl).trans f1
   clear f7 f8 f9
   have f7:=eK
   have f8:=eT
   have f9:=q6
   have K:=b7 f1 f7 f8 f9;clear f1 f7 f8 f9
   refine bU [1,4,5,7,8,9,10,11,34,56] fun F k=>?_;clear K
   obtain⟨f1,f4,f5,f7,f8,f9,f10,f11,f34,f56⟩:=k
   cases m with
   | zero=>
     rw[nY] at f9
     have H:=(@re)
     have K:=iT f1 f4 f5 f7 f8 f9 f10 f11 f34 f56;clear f1 f4 f5 f7 f8 f9 f10 f11 f34 f56
     repeat' (first|refine ak ?_|refine al ?_|((first|refine aI ?_|refine aJ ?_|refine aK ?_|exact ao|refine an ?_);try(refine ar [1,4,5,7,8,9,10,11,34,56] fun F k=>?_;replace K:=k;clear k))|(refine aq (fun I=>?_) (fun I=>?_)<;>first|(exfalso;simp(disch:=omega) [H] at I;done)|(exfalso;simp at I;omega)|simp at I)|exact aB|refine aA ?_|exact aD|refine aC ?_|exact trivial)
     all_goals obtain⟨f1,f4,f5,f7,f8,f9,f10,f11,f34,f56⟩:=K
     exact ⟨mn,kR,c1,cJ,L,f7,f8,nC.bump _ _ (by omega),qs.bump _ _ (by omega),bV,cz,bq,lp,fun j aO=>b8 j (by simp only at aO;omega)⟩
   | succ m=>
     rw[nZ] at f9
     have gj:=cz.gj
     have fD:=cz.fD
     have lU:IntKind.i64.wrap (Z m+Z b.length)=Z (m+b.length):=dC (by omega)
     have nz:IntKind.i64.wrap (Z (m+b.length) - Z 1)=Z (m+(b.length - 1)):=by rw[cA (by omega) (by omega)];congr 1;omega
     have FY:IntKind.i64.wrap (Z m - Z 1)=eJ m:=kG (by omega)
     obtain⟨vo,OZ⟩:∃p,cJ[m+(b.length - 1)]? =some p:=⟨cJ[m+(b.length - 1)]'(by omega),List.getElem?_eq_getElem (by omega)⟩
     have gc:(da cJ)[m+(b.length - 1)]? =some (dv vo):=by simp[da,OZ]
     have ec:=uZ OZ
     have nh:=nC.cells
     have rm:=nC.b9
     have p6:=nC.dj
     have k_:=qs.cells
     have la:=qs.b9
     have dj:=qs.dj
     have A6:=oX (o:=cJ) (by omega)
     have acH:=oX (o:=c1) (by omega)
     have A7:m+(b.length - 1)<a.length:=by omega
     have uG:a' l<48:=by rw[aG];exact Nat.lt_of_le_of_lt (ew b _) dU
     have acg:L<=1000+101*49:=by
      have:(n -(m+1))*49<=101*49:=Nat.mul_le_mul (by omega) (by omega)
      omega
     have E7:a' vo.1<=L:=by rw[<-ec];exact cz.dL _
     have t1:=Yt (vo.1,l) ⟨by simp only;omega,by simp only;omega⟩ (args:=[dv vo,aH l]) (by simp)
     simp only at t1
     by_cases hex:l=0\/vo.1%l≠0
     · have eN:=cz.stop aa (by rw[ec,<-aG];exact hex)
       rw[if_pos hex] at t1
       clear hex
       have H:=j2 b3 lU nz fC nh rm p6 A6 gc A7 b8 t1
       have K:=iT f1 f4 f5 f7 f8 f9 f10 f11 f34 f56;clear f1 f4 f5 f7 f8 f9 f10 f11 f34 f56
       repeat' (first|refine ak ?_|refine al ?_|((first|refine aI ?_|refine aJ ?_|refine aK ?_|exact ao|refine an ?_);try(refine ar [1,4,5,7,8,9,10,11,34,56] fun F k=>?_;replace K:=k;clear k))|(refine aq (fun I=>?_) (fun I=>?_)<;>first|(exfalso;simp(disch:=omega) [H] at I;done)|(exfalso;simp at I;omega)|simp at I)|exact aB|refine aA ?_|exact aD|refine aC ?_|exact trivial)
       all_goals obtain⟨f1,f4,f5,f7,f8,f9,f10,f11,f34,f56⟩:=K
       exact eN
     · rw[if_neg hex] at t1
       obtain⟨c,I⟩:∃c,c=vo.1/l:=⟨_,rfl⟩
       rw[<-I] at t1
       have xx:m<n:=lp
       have lc:a' c<=L:=Nat.le_trans (by rw[I];exact ir (Int.natAbs_ediv_le_natAbs _ _)) E7
       obtain⟨bB,F1⟩:∃p,(da c1)[m]? =some (dv p):=⟨_,wU (by omega)⟩
       have F2:=sY c1 m (c,false)
       have H:=pJ b3 lU nz fC nh rm p6 A6 gc A7 b8 t1 k_ la dj acH F1 F2 xx
       have K:=j2 f1 f7 f8 f9 f10 f11 f34 f56 f61 f62 f63 f64;clear f1 f7 f8 f9 f10 f11 f34 f56 f61 f62 f63 f64
       repeat' (first|refine ak ?_|refine al ?_|((first|refine aI ?_|refine aJ ?_|refine aK ?_|exact ao|refine an ?_);try(refine ar [1,7,8,9,10,11,34,56,61,62,63,64] fun F k=>?_;replace K:=k;clear k))|(refine aq (fun I=>?_) (fun I=>?_)<;>first|(exfalso;simp(disch:=omega) [H] at I;done)|(exfalso;simp at I;omega)|simp at I)|exact aB|refine aA ?_|exact aD|refine aC ?_|exact trivial)
       all_goals obtain⟨f1,f7,f8,f9,f10,f11,f34,f56,f61,f62,f63,f64⟩:=K
       have acI:s.h.next+2+18≠mn:=by omega
       have afc:s.h.next+2+18≠kR:=by omega
       have acJ:=(nC.off (q:=s.h.next+2+18) (by omega) (some [dv (c,false)]) (s.h.next+2+21) s.h.a7 (by omega)).off (q:=mn) bV (some (da (c1.set m (c,false)))) (s.h.next+2+21+2+5+3) s.h.a7 (by simp only;omega)
       have acK:=(qs.off (q:=s.h.next+2+18) (by omega) (some [dv (c,false)]) (s.h.next+2+21) s.h.a7 (by omega)).put (c1.set m (c,false)) (s.h.next+2+21+2+5+3) s.h.a7 (by simp only;omega)
       obtain⟨B,bt⟩:∃B,B=b.length:=⟨_,rfl⟩
       refine ix B (fun i s2=>OX a b mn kR (s.h.next+2+18) (c1.set m (c,false)) cJ m (c,false) i s2/\s2.F 63=a4 i) (OX a b mn kR (s.h.next+2+18) (c1.set m (c,false)) cJ m (c,false) B) (fun _=>False) ?_ ?_ ?_ (fun _ _ h=>h.elim)
       · refine⟨⟨cJ,acJ,acK,gj,fun j=>by rw[if_neg (by omega),Int.sub_zero],?_,by simp only;omega,fun j aO=>b8 j (by simp only at aO;omega)⟩,f63⟩
         simp only[aw]
         rw[if_neg acI,if_true]
       · rintro i s2 lA ag ⟨⟨o,j6,tb,ol,lT,iR,qf,vp⟩,acL⟩
         replace f1:=(ag 1 rfl).trans f1;replace f7:=(ag 7 rfl).trans f7;replace f8:=(ag 8 rfl).trans f8;replace f9:=(ag 9 rfl).trans f9;replace f10:=(ag 10 rfl).trans f10;replace f61:=(ag 61 rfl).trans f61;replace f62:=(ag 62 rfl).trans f62
         clear f63
         have f63:=acL
         have K:=e7 f1 f7 f8 f9 f10 f61 f62 f63;clear f1 f7 f8 f9 f10 f61 f62 f63
         refine bU [1,7,8,9,10,12,13,61,62,63,64] fun F k=>?_;clear K
         obtain⟨f1,f7,f8,f9,f10,f12,f13,f61,f62,f63,f64⟩:=k
         have acM:=j6.cells
         have acN:=j6.b9
         have Mu:=j6.dj
         by_cases cr:i<B
         · have oa:=p' (show i<b.length by omega)
           obtain⟨y,a2⟩:∃y,y=b.getD i 0:=⟨_,rfl⟩
           have lf:=ew b i
           rw[<-a2] at oa lf
           have acO:m+i<a.length:=by omega
           obtain⟨p,O0⟩:∃p,o[m+i]? =some p:=⟨o[m+i]'(by omega),List.getElem?_eq_getElem (by omega)⟩
           have go:(da o)[m+i]? =some (dv p):=by simp[da,O0]
           have As:=uZ O0
           have F4:=lT (m+i)
           rw[As,if_neg (by omega),Int.sub_zero] at F4
           have afd:a' p.1<=L:=by rw[F4];exact cz.dL _
           have acP:=oX (o:=o) (by omega)
           have st:=sY o (m+i) (p.1 - c*y,false)
           have acQ:IntKind.i64.wrap (Z m+Z i)=Z (m+i):=dC (by omega)
           have afe:=kt c y
           have t2:=uU (c,y) ⟨by simp only;omega,by simp only;omega,by simp only;omega⟩ (args:=[dv (c,false),aH y]) (by simp)
           have t3:=Dw (p.1,c*y) ⟨by simp only;omega,by simp only;omega⟩ (args:=[dv p,aH (c*y)]) (by simp)
           simp only at t2 t3
           have o0:∀j,s2.h.shut (s2.h.next+j)=false:=fun j=>vp _ (by omega)
           have acR:∀j,(zs (o.set (m+i) (p.1 - c*y,false))).getD j 0=(zs cJ).getD j 0 -(if m<=j/\j<m+(i+1) then (c,false).1*b.getD (j - m) 0 else 0):=fun j=>by
            rw[wW,u0 _ _ _ _ (by rw[n8];omega)]
            by_cases au:j=m+i
            · subst au
              rw[if_pos rfl,if_pos ⟨by omega,by omega⟩,show m+i - m=i by omega,<-a2,F4]
            · rw[if_neg au,lT]
              by_cases ax:m<=j/\j<m+i
              · rw[if_pos ax,if_pos ⟨ax.1,by omega⟩]
              · rw[if_neg ax,if_neg (by omega)]
           generalize c*y=jc at*
           generalize p.1 - jc=v at*
           have H:=RQ cr bt.symm oa acO go acP acM acN Mu st acQ t2 t3 o0 vp iR qf ol
           have K:=kE f1 f7 f8 f9 f10 f12 f13 f61 f62 f63 f64;clear f1 f7 f8 f9 f10 f12 f13 f61 f62 f63 f64
           repeat' (first|refine ak ?_|refine al ?_|((first|refine aI ?_|refine aJ ?_|refine aK ?_|exact ao|refine an ?_);try(refine ar [1,7,8,9,10,12,13,61,62,63,64] fun F k=>?_;replace K:=k;clear k))|(refine aq (fun I=>?_) (fun I=>?_)<;>first|(exfalso;simp(disch:=omega) [H] at I;done)|(exfalso;simp at I;omega)|simp at I)|exact aB|refine aA ?_|exact aD|refine aC ?_|exact trivial)
           all_goals obtain⟨f1,f7,f8,f9,f10,f12,f13,f61,f62,f63,f64⟩:=K
           have aff:=tb.dj
           refine⟨o.set (m+i) (v,false),(j6.off (q:=s2.h.next+1+3) (by omega) (some [aH y]) (s2.h.next+1+6) s2.h.a7 (by omega)).put _ _ _ (by simp only;omega),(tb.off (q:=s2.h.next+1+3) (by omega) (some [aH y]) (s2.h.next+1+6) s2.h.a7 (by omega)).off (q:=kR) (Ne.symm bV) _ _ _ (by simp only;omega),by rw[List.length_set];exact ol,acR,?_,by simp only;omega,fun j aO=>vp j (by simp only at aO;omega)⟩
           simp only[aw]
           rw[if_neg (by omega),if_neg (by omega)]
           exact iR
         · obtain rfl:i=B:=by omega
           have H:=bt.symm
           have K:=kE f1 f7 f8 f9 f10 f12 f13 f61 f62 f63 f64;clear f1 f7 f8 f9 f10 f12 f13 f61 f62 f63 f64
           repeat' (first|refine ak ?_|refine al ?_|((first|refine aI ?_|refine aJ ?_|refine aK ?_|exact ao|refine an ?_);try(refine ar [1,7,8,9,10,12,13,61,62,63,64] fun F k=>?_;replace K:=k;clear k))|(refine aq (fun I=>?_) (fun I=>?_)<;>first|(exfalso;simp(disch:=omega) [H] at I;done)|(exfalso;simp at I;omega)|simp at I)|exact aB|refine aA ?_|exact aD|refine aC ?_|exact trivial)
           all_goals obtain⟨f1,f7,f8,f9,f10,f12,f13,f61,f62,f63,f64⟩:=K
           exact ⟨o,j6.bump _ _ (by omega),tb.bump _ _ (by omega),ol,lT,iR,by simp only;omega,fun j aO=>vp j (by simp only at aO;omega)⟩
       · rintro s2 ag ⟨o,j6,tb,ol,lT,iR,qf,vp⟩
         replace f1:=(ag 1 rfl).trans f1;replace f7:=(ag 7 rfl).trans f7;replace f8:=(ag 8 rfl).trans f8;replace f9:=(ag 9 rfl).trans f9;replace f10:=(ag 10 rfl).trans f10
         clear f63
         have A_:=cz.step (ec:=false) aa az xx (by rw[ec,<-aG];exact hex) (c:=c) (by rw[ec,<-aG];assumption) (o:=o) (by rw[<-bt];exact lT) ol lc
         have K:=bH f1 f7 f8 f9 f10;clear f1 f7 f8 f9 f10
         refine bU [1,7,8,9,10,34] fun F k=>?_;clear K
         obtain⟨f1,f7,f8,f9,f10,f34⟩:=k
         have H:=FY
         have K:=en f1 f7 f8 f9 f10 f34;clear f1 f7 f8 f9 f10 f34
         repeat' (first|refine ak ?_|refine al ?_|((first|refine aI ?_|refine aJ ?_|refine aK ?_|exact ao|refine an ?_);try(refine ar [1,7,8,9,10,34] fun F k=>?_;replace K:=k;clear k))|(refine aq (fun I=>?_) (fun I=>?_)<;>first|(exfalso;simp(disch:=omega) [H] at I;done)|(exfalso;simp at I;omega)|simp at I)|exact aB|refine aA ?_|exact aD|refine aC ?_|exact trivial)
         all_goals obtain⟨f1,f7,f8,f9,f10,f34⟩:=K
         exact ⟨m,by omega,⟨mn,kR,_,o,_,f7,f8,j6.bump _ _ (by omega),tb.bump _ _ (by omega),bV,A_,by omega,by omega,fun j aO=>vp j (by simp only at aO;omega)⟩,rfl⟩
 · rintro s ag ⟨mn,kR,c1,cJ,L,eK,eT,nC,qs,bV,cz,bq,lp,b8⟩
   clear f7 f8 f9
   have f7:=eK
   have f8:=eT
   have oj:=cz.fin qe aa (by omega)
   have gj:=cz.gj
   have fD:=cz.fD
   obtain⟨ids,rC,aL⟩:=(show mo s.h (.ref kR 0 a.length a.length) cJ from .inr ⟨kR,by rw[gj],nC⟩).outs
   have vm:=tg (zs cJ) (by rw[n8];omega) (args:=[.sl (da cJ) rC]) (by simp only[List.map_cons,List.map_nil,ee,uO])
   rw[oj]
   have K:=bN f7 f8;clear f7 f8
   refine bU [4,5,7,8,87] fun F k=>?_;clear K
   obtain⟨f4,f5,f7,f8,f87⟩:=k
   by_cases ay:strip (zs cJ)= []
   · rw[if_pos ay,Option.isSome_some,if_pos rfl,Option.getD_some]
     rw[ay] at vm
     have E9:=uO c1
     have dT:=qs.cells
     have nO:=zv c1
     have ks:=ri c1
     have iW:List.take n (da c1)=da c1:=List.take_of_length_le (by omega)
     generalize zs c1=V_ at*
     have H:=dN aL vm dT nO ks fD iW
     have K:=bH f4 f5 f7 f8 f87;clear f4 f5 f7 f8 f87
     repeat' (first|refine ak ?_|refine al ?_|((first|refine aI ?_|refine aJ ?_|refine aK ?_|exact ao|refine an ?_);try(refine ar [4,5,7,8,87] fun F k=>?_;replace K:=k;clear k))|(refine aq (fun I=>?_) (fun I=>?_)<;>first|(exfalso;simp(disch:=omega) [H] at I;done)|(exfalso;simp at I;omega)|simp at I)|((first|refine ca ?_|refine dq ?_);simp(disch:=omega) [H,K,E9])|exact trivial)
     all_goals obtain⟨f4,f5,f7,f8,f87⟩:=K
   · rw[if_neg ay,Option.isSome_none,if_neg Bool.false_ne_true]
     have fs:0<(strip (zs cJ)).length:=List.length_pos_iff.2 ay
     generalize strip (zs cJ)=rest at*
     have H:=bI aL vm fs
     have K:=bH f4 f5 f7 f8 f87;clear f4 f5 f7 f8 f87
     repeat' (first|refine ak ?_|refine al ?_|((first|refine aI ?_|refine aJ ?_|refine aK ?_|exact ao|refine an ?_);try(refine ar [4,5,7,8,87] fun F k=>?_;replace K:=k;clear k))|(refine aq (fun I=>?_) (fun I=>?_)<;>first|(exfalso;simp(disch:=omega) [H] at I;done)|(exfalso;simp at I;omega)|simp at I)|exact aB|refine aA ?_|exact aD|refine aC ?_|exact trivial)
     all_goals obtain⟨f4,f5,f7,f8,f87⟩:=K
 · rintro s ag ⟨oj,f4,f5⟩
   rw[oj]
   simp[f4,f5]
end
end
section
set_option maxHeartbeats 8000000
open Go Go.Eng Go.RowKit
attribute [local simp] a_.m a_.o a_.n a_.g e6 ez c2 cE c4 evalOp.eq_1 evalOp.eq_2 evalOp.eq_3 evalOp.eq_4 evalOp.eq_5 evalOp.eq_6 evalOp.eq_7 evalOp.eq_8 evalOp.eq_9 evalOp.eq_10 evalOp.eq_11 evalOp.eq_12 evalOp.eq_13 evalOp.eq_14 evalOp.eq_15 evalOp.eq_16 evalOp.eq_17 evalOp.eq_18 evalOp.eq_19 evalOp.eq_20 evalOp.eq_21 evalOp.eq_22 evalOp.eq_23 evalOp.eq_24 evalOp.eq_25 evalOp.eq_27 evalOp.eq_28 evalOp.eq_29 ie a6.ev cD aw af.new dW J.cells J.ch J.dO J.dJ gk gm gl gn gq gp hA hB hC ft fu cut partOf bound elems hE hF hG hH hI hJ hK hL hM hN hO hP fJ hQ hR hS hT hU hV hW hX hY hZ h0 h1 h3 h4 h5 h6 h7 h8 h9 h_ ia ib ic ey eh d_ e1 gr fS af.close af.set fU ig ih ij hD fT fR fy ee fH ga fh fI gb gd gf eY eZ e0 eW gu bP f_ gv f' gw gx eQ gy eR gz gA gB fl hz gC gD gE gF gG gH gI gJ gK gL gM gN gO gP gQ gR gS gT gU fx gV gW gX gY gZ g0 g1 g2 g3 g4 g5 g6 g7 g8 g9
attribute [local simp high] hv hx hy g_ g' ha hb hc hd hf hg hh hi hj hk hl hn ho hp hq hr hs ht
attribute [local simp] aQ List.getElem?_cons_zero List.getElem?_cons_succ dC cA fg Nat.mod_eq_of_lt iE iF iG iH fm iI iJ iK
section
attribute [local irreducible] br
attribute [local simp] di db kL cB jS
theorem A' {p:List (Bool × List Nat)} {i:Nat} (h:i<p.length):(p.map fun z=>fM z)[i]? =some (fM p[i]):=by simp[h]
noncomputable def qt:FuncId->Option (List J->Option J):=cT [(147,zc),(87,q_)]
theorem acS:∀f T,qt f=some T->a3 Tryz.prog G f T:=cX (by simp only[List.forall_mem_cons];exact ⟨UZ,Ds,fun _ h=>absurd h (by simp)⟩)
theorem acT:qt 147=some zc:=rfl
theorem acU:qt 87=some q_:=rfl
theorem acV:qt 146=none:=rfl
theorem acW:qt 210=none:=rfl
theorem acX:qt 148=none:=rfl
attribute [local simp] acT acU acV acW acX
theorem acY (Y:List cR) (h:af) (aE:∀j,h.next<=j->h.shut j=false) (z:Bool × List Nat) (aG:z.2.length<=1000000000):
 ∃v h',eP G (aR Tryz.prog) qt Y (.fn 146) [fM z] h=some (v,h')/\v= .bool (!kZ z.1 z.2)/\Kept h h':=by
 have t:=UY z aG (args:=[fM z]) (by simp[yF])
 refine j0 I_ ?_
 generalize kZ z.1 z.2=b at*
 unfold i146
 refine aX [0,1,2] fun F K=>?_
 obtain⟨f0,f1,f2⟩:=K
 have H:=bN t aE
 have K:=bI f0 f1 f2;clear f0 f1 f2
 repeat' (first|refine ak ?_|refine al ?_|((first|refine b4 ?_|refine b5 ?_|refine b6 ?_|exact ao|refine an ?_);try(refine ar [0,1,2] fun F k=>?_;replace K:=k;clear k))|(refine aq (fun I=>?_) (fun I=>?_)<;>first|(exfalso;simp(disch:=omega) [H] at I;done)|(exfalso;simp at I;omega)|simp at I)|exact aB|refine aA ?_|exact aD|refine aC ?_|exact trivial)
 all_goals obtain⟨f0,f1,f2⟩:=K
 try refine ca ?_
 simp[jw,f2]
 exact (Kept.mF h).new _ _ (by omega) (by omega)
theorem acZ (Y:List cR) (h:af) (b8:∀j,h.next<=j->h.shut j=false) (p:List (Bool × List Nat)) (f:Bool) (le:p.length<=1000000) (ay:∀z∈p,z.2.length<=1000000000):
 ∃v h',eP G (aR Tryz.prog) qt Y (.fn 210) [.sl (p.map fun z=>fM z) f,.fn 146 [] []] h=some (v,h')/\(∃n:Int,v= .int .i64 n/\(Z 0<=n↔¬pg p))/\Kept h h':=by
 refine j0 Jt ?_
 unfold i210
 refine aX [0,1,4,5,7,8,9,16] fun F K=>?_
 obtain⟨f0,f1,f4,f5,f7,f8,f9,f16⟩:=K
 have H:=trivial
 have K:=e7 f0 f1 f4 f5 f7 f8 f9 f16;clear f0 f1 f4 f5 f7 f8 f9 f16
 repeat' (first|refine ak ?_|refine al ?_|((first|refine b4 ?_|refine b5 ?_|refine b6 ?_|exact ao|refine an ?_);try(refine ar [0,1,4,5,7,8,9,16] fun F k=>?_;replace K:=k;clear k))|(refine aq (fun I=>?_) (fun I=>?_)<;>first|(exfalso;simp(disch:=omega) [H] at I;done)|(exfalso;simp at I;omega)|simp at I)|exact aB|refine aA ?_|exact aD|refine aC ?_|exact trivial)
 all_goals obtain⟨f0,f1,f4,f5,f7,f8,f9,f16⟩:=K
 refine ix p.length (fun i s=>pg (p.take i)/\Kept h s.h/\s.F 8=a4 i) (fun s=>pg p/\Kept h s.h) (fun s=>¬pg p/\Kept h s.h/\∃n,s.F 4=a4 n) ?_ ?_ ?_ ?_
 · exact ⟨by simp[pg],(Kept.mF h).bump _ (by omega),f8⟩
 · rintro i s ab ag ⟨aV,K,eT⟩
   replace f0:=(ag 0 rfl).trans f0;replace f1:=(ag 1 rfl).trans f1;replace f7:=(ag 7 rfl).trans f7
   clear f8
   have f8:=eT
   have K:=b7 f0 f1 f7 f8;clear f0 f1 f7 f8
   refine bU [0,1,4,5,7,8,9,16] fun F k=>?_;clear K
   obtain⟨f0,f1,f4,f5,f7,f8,f9,f16⟩:=k
   by_cases a8:i<p.length
   · have ba:=A' a8
     have xo:p.take (i+1)=p.take i++ [p[i]]:=List.take_succ_eq_append_getElem a8
     have oH:=List.getElem_mem a8
     have oU:=K.next
     have xy:=K.bump (s.h.next+1+2+6) (by omega)
     obtain⟨v,h',au,rfl,bL⟩:=acY Y ⟨s.h.cells,s.h.shut,s.h.next+1+2+6,s.h.a7⟩ (wX b8 xy) p[i] (ay _ oH)
     have jG:=xy.trans bL
     generalize p[i]=x at*
     cases cr:kZ x.1 x.2<;>rw[cr] at au
     · skip
       have H:=bI a8 ba au
       have K:=e7 f0 f1 f4 f5 f7 f8 f9 f16;clear f0 f1 f4 f5 f7 f8 f9 f16
       repeat' (first|refine ak ?_|refine al ?_|((first|refine b4 ?_|refine b5 ?_|refine b6 ?_|exact ao|refine an ?_);try(refine ar [0,1,4,5,7,8,9,16] fun F k=>?_;replace K:=k;clear k))|(refine aq (fun I=>?_) (fun I=>?_)<;>first|(exfalso;simp(disch:=omega) [H] at I;done)|(exfalso;simp at I;omega)|simp at I)|exact aB|refine aA ?_|exact aD|refine aC ?_|exact trivial)
       all_goals obtain⟨f0,f1,f4,f5,f7,f8,f9,f16⟩:=K
       exact ⟨fun h=>(by have:=h x oH;rw[cr] at this;cases this),jG.bump _ (by omega)⟩
     · skip
       have H:=bI a8 ba au
       have K:=e7 f0 f1 f4 f5 f7 f8 f9 f16;clear f0 f1 f4 f5 f7 f8 f9 f16
       repeat' (first|refine ak ?_|refine al ?_|((first|refine b4 ?_|refine b5 ?_|refine b6 ?_|exact ao|refine an ?_);try(refine ar [0,1,4,5,7,8,9,16] fun F k=>?_;replace K:=k;clear k))|(refine aq (fun I=>?_) (fun I=>?_)<;>first|(exfalso;simp(disch:=omega) [H] at I;done)|(exfalso;simp at I;omega)|simp at I)|exact aB|refine aA ?_|exact aD|refine aC ?_|exact trivial)
       all_goals obtain⟨f0,f1,f4,f5,f7,f8,f9,f16⟩:=K
       refine⟨?_,jG.bump _ (by omega)⟩
       rw[xo]
       intro y a2
       rcases List.mem_append.1 a2 with a2|a2
       · exact aV y a2
       · rw[List.mem_singleton.1 a2];exact cr
   · have lA:i=p.length:=by omega
     subst lA
     rw[List.take_length] at aV
     have H:=a8
     have K:=e7 f0 f1 f4 f5 f7 f8 f9 f16;clear f0 f1 f4 f5 f7 f8 f9 f16
     repeat' (first|refine ak ?_|refine al ?_|((first|refine b4 ?_|refine b5 ?_|refine b6 ?_|exact ao|refine an ?_);try(refine ar [0,1,4,5,7,8,9,16] fun F k=>?_;replace K:=k;clear k))|(refine aq (fun I=>?_) (fun I=>?_)<;>first|(exfalso;simp(disch:=omega) [H] at I;done)|(exfalso;simp at I;omega)|simp at I)|exact aB|refine aA ?_|exact aD|refine aC ?_|exact trivial)
     all_goals obtain⟨f0,f1,f4,f5,f7,f8,f9,f16⟩:=K
     exact ⟨aV,K.bump _ (by omega)⟩
 · rintro s ag ⟨aE,K⟩
   have K:=trivial
   refine bU [4] fun F k=>?_;clear K
   have f4:=k;clear k
   have H:=trivial
   have K:=f4;clear f4
   repeat' (first|refine ak ?_|refine al ?_|((first|refine b4 ?_|refine b5 ?_|refine b6 ?_|exact ao|refine an ?_);try(refine ar [4] fun F k=>?_;replace K:=k;clear k))|(refine aq (fun I=>?_) (fun I=>?_)<;>first|(exfalso;simp(disch:=omega) [H] at I;done)|(exfalso;simp at I;omega)|simp at I)|exact aB|refine aA ?_|exact aD|refine aC ?_|exact trivial)
   all_goals (have f4:=K;clear K)
   try refine ca ?_
   simp[jw,f4,Z]
   exact ⟨aE,K.bump _ (by omega)⟩
 · rintro s ag ⟨aE,K,n,f4⟩
   simp[jw,f4]
   exact ⟨aE,K⟩
theorem ac0 (Y:List cR) (h:af) (b8:∀j,h.next<=j->h.shut j=false) (p:List (Bool × List Nat)) (f:Bool) (le:p.length<=1000000) (ay:∀z∈p,z.2.length<=1000000000):
 ∃v h',eP G (aR Tryz.prog) qt Y (.fn 148) [.sl (p.map fun z=>fM z) f,.fn 146 [] []] h=some (v,h')/\v= .bool (!(p.all fun z=>kZ z.1 z.2))/\Kept h h':=by
 refine j0 Ja ?_
 have xy:=(Kept.mF h).bump (h.next+1+5) (by omega)
 obtain⟨v,h',au,⟨n,rfl,aF⟩,bL⟩:=acZ Y ⟨h.cells,h.shut,h.next+1+5,h.a7⟩ (wX b8 xy) p f le ay
 have jG:=xy.trans bL
 have aa:decide (Z 0<=n)= !(p.all fun z=>kZ z.1 z.2):=by
  rw[Bool.eq_iff_iff,decide_eq_true_eq,aF,Bool.not_eq_true',<-Bool.not_eq_true,List.all_eq_true,pg]
 unfold i148
 refine aX [0,1,4] fun F K=>?_
 obtain⟨f0,f1,f4⟩:=K
 have H:=au
 have K:=bI f0 f1 f4;clear f0 f1 f4
 repeat' (first|refine ak ?_|refine al ?_|((first|refine b4 ?_|refine b5 ?_|refine b6 ?_|exact ao|refine an ?_);try(refine ar [0,1,4] fun F k=>?_;replace K:=k;clear k))|(refine aq (fun I=>?_) (fun I=>?_)<;>first|(exfalso;simp(disch:=omega) [H] at I;done)|(exfalso;simp at I;omega)|simp at I)|exact aB|refine aA ?_|exact aD|refine aC ?_|exact trivial)
 all_goals obtain⟨f0,f1,f4⟩:=K
 try refine ca ?_
 simp[jw,f4]
 exact ⟨aa,jG.bump _ (by omega)⟩
def xz (p:List (Bool × List Nat)):Prop:=p.length<=1000000/\∀z∈p,Small z.2/\z.2.length<=1000000
noncomputable def Ba:List J->Option J:=bu (fun p:List (Bool × List Nat)=>xz p) (fun p=>[.sl (p.map fun z=>fM z) false]) (fun p=> .bool (mq p))
theorem ac1 {p:List (Bool × List Nat)} (h:xz p) {args:List J} (he:args.map J.loose= [.sl (p.map fun z=>fM z) false]):Ba args=some (.bool (mq p)):=
 bM (fun z w h=>by
  simp only[List.cons.injEq,J.sl.injEq,xh,and_true] at h
  rw[h]) p h he
theorem ac2:a3 Tryz.prog G 60 Ba:=by
 refine bK mixed acS IH fun p aS=>?_
 obtain⟨aG,ay⟩:=aS
 obtain⟨v,h',au,rfl,K⟩:=ac0 [] ⟨fun _=>none,fun _=>false,22,fun _=>none⟩ (fun _ _=>rfl) p false aG (fun z h=>Nat.le_trans (ay z h).2 (by omega))
 have qq:h'.shut=fun _=>false:=K.shut
 unfold i60
 cases aV:p.all (fun z=>kZ z.1 z.2)
 · rw[aV] at au
   rw[show mq p=false by rw[mq,aV];rfl]
   simp only[Bool.not_false] at au
   refine aX [0,2,3] fun F K=>?_
   obtain⟨f0,f2,f3⟩:=K
   have H:=bN au qq
   have K:=bI f0 f2 f3;clear f0 f2 f3
   repeat' (first|refine ak ?_|refine al ?_|((first|refine b4 ?_|refine b5 ?_|refine b6 ?_|exact ao|refine an ?_);try(refine ar [0,2,3] fun F k=>?_;replace K:=k;clear k))|(refine aq (fun I=>?_) (fun I=>?_)<;>first|(exfalso;simp(disch:=omega) [H] at I;done)|(exfalso;simp at I;omega)|simp at I)|exact aB|refine aA ?_|exact aD|refine aC ?_|exact trivial)
   all_goals obtain⟨f0,f2,f3⟩:=K
 · rw[aV] at au
   simp only[Bool.not_true] at au
   by_cases aQ:p= []
   · subst aQ
     rw[show mq []=true from rfl]
     simp only[List.map_nil] at au
     refine aX [0,2,3] fun F K=>?_
     obtain⟨f0,f2,f3⟩:=K
     have H:=bN au qq
     have K:=bI f0 f2 f3;clear f0 f2 f3
     repeat' (first|refine ak ?_|refine al ?_|((first|refine b4 ?_|refine b5 ?_|refine b6 ?_|exact ao|refine an ?_);try(refine ar [0,2,3] fun F k=>?_;replace K:=k;clear k))|(refine aq (fun I=>?_) (fun I=>?_)<;>first|(exfalso;simp(disch:=omega) [H] at I;done)|(exfalso;simp at I;omega)|simp at I)|exact aB|refine aA ?_|exact aD|refine aC ?_|exact trivial)
     all_goals obtain⟨f0,f2,f3⟩:=K
   · have aS:=List.length_pos_iff.2 aQ
     have el:¬p.length=0:=by omega
     have jj:(p.length == 0)=false:=by simpa using el
     have fC:=A' (show p.length - 1<p.length by omega)
     have F5:p.getD (p.length - 1) (false,[])=p[p.length - 1]'(by omega):=by rw[List.getD_eq_getElem?_getD,List.getElem?_eq_getElem (by omega)];rfl
     have hm:p[p.length - 1]'(by omega)∈p:=List.getElem_mem _
     rw[show mq p=decide ((p[p.length - 1]'(by omega)).2≠ []) by rw[mq,aV,F5,decide_eq_false aQ];rfl]
     obtain⟨ax,a9⟩:=OV (ay _ hm).1 (List.all_eq_true.1 aV _ hm)
     generalize p[p.length - 1]'(by omega)=x at*
     rw[ax] at fC
     have t:=Dr (cC x.1 (val x.2)) trivial (args:=[aH (cC x.1 (val x.2))]) (by simp)
     have b3:IntKind.i64.wrap (Z p.length - Z 1)=Z (p.length - 1):=cA (by omega) (by omega)
     by_cases ae:x.2= []
     · rw[a9.2 ae] at t
       rw[decide_eq_false (by simpa using ae)]
       generalize cC x.1 (val x.2)=y at*
       refine aX [0,2,3] fun F K=>?_
       obtain⟨f0,f2,f3⟩:=K
       have H:=e7 au qq (@aQ) el jj fC b3 t
       have K:=bI f0 f2 f3;clear f0 f2 f3
       repeat' (first|refine ak ?_|refine al ?_|((first|refine b4 ?_|refine b5 ?_|refine b6 ?_|exact ao|refine an ?_);try(refine ar [0,2,3] fun F k=>?_;replace K:=k;clear k))|(refine aq (fun I=>?_) (fun I=>?_)<;>first|(exfalso;simp(disch:=omega) [H] at I;done)|(exfalso;simp at I;omega)|simp at I)|exact aB|refine aA ?_|exact aD|refine aC ?_|exact trivial)
       all_goals obtain⟨f0,f2,f3⟩:=K
     · have nS:¬gg (cC x.1 (val x.2))=0:=fun h=>ae (a9.1 h)
       have F6:(gg (cC x.1 (val x.2)) != Z 0)=true:=bne_iff_ne.2 nS
       rw[decide_eq_true ae]
       generalize gg (cC x.1 (val x.2))=zV at*
       generalize cC x.1 (val x.2)=y at*
       refine aX [0,2,3] fun F K=>?_
       obtain⟨f0,f2,f3⟩:=K
       have H:=iT au qq (@aQ) el jj fC b3 t nS F6
       have K:=bI f0 f2 f3;clear f0 f2 f3
       repeat' (first|refine ak ?_|refine al ?_|((first|refine b4 ?_|refine b5 ?_|refine b6 ?_|exact ao|refine an ?_);try(refine ar [0,2,3] fun F k=>?_;replace K:=k;clear k))|(refine aq (fun I=>?_) (fun I=>?_)<;>first|(exfalso;simp(disch:=omega) [H] at I;done)|(exfalso;simp at I;omega)|simp at I)|exact aB|refine aA ?_|exact aD|refine aC ?_|exact trivial)
       all_goals obtain⟨f0,f2,f3⟩:=K
noncomputable def F7:FuncId->Option (List J->Option J):=cT [(149,AD),(150,o7)]
theorem ac3:∀f T,F7 f=some T->a3 Tryz.prog G f T:=cX (by simp only[List.forall_mem_cons];exact ⟨ZZ,Az,fun _ h=>absurd h (by simp)⟩)
theorem ac4:F7 149=some AD:=rfl
theorem ac5:F7 150=some o7:=rfl
attribute [local simp] ac4 ac5
noncomputable def Bb:List J->Option J:=bu (fun p:List (Bool × List Nat)=>xz p) (fun p=>[.sl (p.map fun z=>fM z) false]) (fun p=> .bool (mq p))
theorem ac6 {p:List (Bool × List Nat)} (h:xz p) {args:List J} (he:args.map J.loose= [.sl (p.map fun z=>fM z) false]):Bb args=some (.bool (mq p)):=
 bM (fun z w h=>by
  simp only[List.cons.injEq,J.sl.injEq,xh,and_true] at h
  rw[h]) p h he
theorem ac7:a3 Tryz.prog G 61 Bb:=by
 refine bK mixed ac3 R9 fun p aS=>?_
 obtain⟨aG,ay⟩:=aS
 unfold i61
 refine aX [0,2,3,7,15] fun F K=>?_
 obtain⟨f0,f2,f3,f7,f15⟩:=K
 have H:=trivial
 have K:=bH f0 f2 f3 f7 f15;clear f0 f2 f3 f7 f15
 repeat' (first|refine ak ?_|refine al ?_|((first|refine aI ?_|refine aJ ?_|refine aK ?_|exact ao|refine an ?_);try(refine ar [0,2,3,7,15] fun F k=>?_;replace K:=k;clear k))|(refine aq (fun I=>?_) (fun I=>?_)<;>first|(exfalso;simp(disch:=omega) [H] at I;done)|(exfalso;simp at I;omega)|simp at I)|exact aB|refine aA ?_|exact aD|refine aC ?_|exact trivial)
 all_goals obtain⟨f0,f2,f3,f7,f15⟩:=K
 refine ix p.length (fun i s=>pg (p.take i)/\s.F 3=a4 i) (fun _=>pg p) (fun s=>¬pg p/\s.F 2= .bool false) ?_ ?_ ?_ ?_
 · exact ⟨by simp[pg],f3⟩
 · rintro i s ab ag ⟨aV,fG⟩
   replace f0:=(ag 0 rfl).trans f0
   clear f3
   have f3:=fG
   have K:=bN f0 f3;clear f0 f3
   refine bU [0,2,3,7,15] fun F k=>?_;clear K
   obtain⟨f0,f2,f3,f7,f15⟩:=k
   by_cases a8:i<p.length
   · have ba:=A' a8
     have xo:p.take (i+1)=p.take i++ [p[i]]:=List.take_succ_eq_append_getElem a8
     have oH:=List.getElem_mem a8
     have t:=ZY p[i] (by have:=(ay _ oH).2;omega) (args:=[fM p[i]]) (by simp[yF])
     generalize p[i]=x at*
     cases cr:kZ x.1 x.2<;>rw[cr] at t
     · skip
       have H:=bI a8 ba t
       have K:=bH f0 f2 f3 f7 f15;clear f0 f2 f3 f7 f15
       repeat' (first|refine ak ?_|refine al ?_|((first|refine aI ?_|refine aJ ?_|refine aK ?_|exact ao|refine an ?_);try(refine ar [0,2,3,7,15] fun F k=>?_;replace K:=k;clear k))|(refine aq (fun I=>?_) (fun I=>?_)<;>first|(exfalso;simp(disch:=omega) [H] at I;done)|(exfalso;simp at I;omega)|simp at I)|exact aB|refine aA ?_|exact aD|refine aC ?_|exact trivial)
       all_goals obtain⟨f0,f2,f3,f7,f15⟩:=K
       exact fun h=>(by have:=h x oH;rw[cr] at this;cases this)
     · skip
       have H:=bI a8 ba t
       have K:=bH f0 f2 f3 f7 f15;clear f0 f2 f3 f7 f15
       repeat' (first|refine ak ?_|refine al ?_|((first|refine aI ?_|refine aJ ?_|refine aK ?_|exact ao|refine an ?_);try(refine ar [0,2,3,7,15] fun F k=>?_;replace K:=k;clear k))|(refine aq (fun I=>?_) (fun I=>?_)<;>first|(exfalso;simp(disch:=omega) [H] at I;done)|(exfalso;simp at I;omega)|simp at I)|exact aB|refine aA ?_|exact aD|refine aC ?_|exact trivial)
       all_goals obtain⟨f0,f2,f3,f7,f15⟩:=K
       rw[xo]
       intro y a2
       rcases List.mem_append.1 a2 with a2|a2
       · exact aV y a2
       · rw[List.mem_singleton.1 a2];exact cr
   · have lA:i=p.length:=by omega
     subst lA
     rw[List.take_length] at aV
     have H:=a8
     have K:=bH f0 f2 f3 f7 f15;clear f0 f2 f3 f7 f15
     repeat' (first|refine ak ?_|refine al ?_|((first|refine aI ?_|refine aJ ?_|refine aK ?_|exact ao|refine an ?_);try(refine ar [0,2,3,7,15] fun F k=>?_;replace K:=k;clear k))|(refine aq (fun I=>?_) (fun I=>?_)<;>first|(exfalso;simp(disch:=omega) [H] at I;done)|(exfalso;simp at I;omega)|simp at I)|exact aB|refine aA ?_|exact aD|refine aC ?_|exact trivial)
     all_goals obtain⟨f0,f2,f3,f7,f15⟩:=K
     exact aV
 · rintro s ag aV
   replace f0:=(ag 0 rfl).trans f0
   clear f3
   have wk:p.all (fun z=>kZ z.1 z.2)=true:=List.all_eq_true.2 aV
   have K:=f0;clear f0
   refine bU [0,2] fun F k=>?_;clear K
   obtain⟨f0,f2⟩:=k
   by_cases aQ:p= []
   · subst aQ
     rw[show mq []=true from rfl]
     have H:=trivial
     have K:=bN f0 f2;clear f0 f2
     repeat' (first|refine ak ?_|refine al ?_|((first|refine aI ?_|refine aJ ?_|refine aK ?_|exact ao|refine an ?_);try(refine ar [0,2] fun F k=>?_;replace K:=k;clear k))|(refine aq (fun I=>?_) (fun I=>?_)<;>first|(exfalso;simp(disch:=omega) [H] at I;done)|(exfalso;simp at I;omega)|simp at I)|exact aB|refine aA ?_|exact aD|refine aC ?_|exact trivial)
     all_goals obtain⟨f0,f2⟩:=K
   · have aS:=List.length_pos_iff.2 aQ
     have el:¬p.length=0:=by omega
     have jj:(p.length == 0)=false:=by simpa using el
     have fC:=A' (show p.length - 1<p.length by omega)
     have F5:p.getD (p.length - 1) (false,[])=p[p.length - 1]'(by omega):=by rw[List.getD_eq_getElem?_getD,List.getElem?_eq_getElem (by omega)];rfl
     have hm:p[p.length - 1]'(by omega)∈p:=List.getElem_mem _
     rw[show mq p=decide ((p[p.length - 1]'(by omega)).2≠ []) by rw[mq,wk,F5,decide_eq_false aQ];rfl]
     obtain⟨ax,a9⟩:=OV (ay _ hm).1 (aV _ hm)
     have aT:=ay _ hm
     generalize p[p.length - 1]'(by omega)=x at*
     rw[ax] at fC
     have Ki:a' (cC x.1 (val x.2))<=1000000:=by
      rw[K5]
      exact cN.2 (Nat.lt_of_lt_of_le (oO aT.1) (mb aT.2))
     have t:=Fh (cC x.1 (val x.2)) (by omega) (args:=[aH (cC x.1 (val x.2))]) (by simp)
     have b3:IntKind.i64.wrap (Z p.length - Z 1)=Z (p.length - 1):=cA (by omega) (by omega)
     by_cases ae:x.2= []
     · rw[a9.2 ae] at t
       rw[decide_eq_false (by simpa using ae)]
       generalize cC x.1 (val x.2)=y at*
       have H:=en (@aQ) el jj fC b3 t
       have K:=bN f0 f2;clear f0 f2
       repeat' (first|refine ak ?_|refine al ?_|((first|refine aI ?_|refine aJ ?_|refine aK ?_|exact ao|refine an ?_);try(refine ar [0,2] fun F k=>?_;replace K:=k;clear k))|(refine aq (fun I=>?_) (fun I=>?_)<;>first|(exfalso;simp(disch:=omega) [H] at I;done)|(exfalso;simp at I;omega)|simp at I)|exact aB|refine aA ?_|exact aD|refine aC ?_|exact trivial)
       all_goals obtain⟨f0,f2⟩:=K
     · have nS:¬gg (cC x.1 (val x.2))=0:=fun h=>ae (a9.1 h)
       have F6:(gg (cC x.1 (val x.2)) != Z 0)=true:=bne_iff_ne.2 nS
       rw[decide_eq_true ae]
       generalize gg (cC x.1 (val x.2))=zV at*
       generalize cC x.1 (val x.2)=y at*
       have H:=e7 (@aQ) el jj fC b3 t nS F6
       have K:=bN f0 f2;clear f0 f2
       repeat' (first|refine ak ?_|refine al ?_|((first|refine aI ?_|refine aJ ?_|refine aK ?_|exact ao|refine an ?_);try(refine ar [0,2] fun F k=>?_;replace K:=k;clear k))|(refine aq (fun I=>?_) (fun I=>?_)<;>first|(exfalso;simp(disch:=omega) [H] at I;done)|(exfalso;simp at I;omega)|simp at I)|exact aB|refine aA ?_|exact aD|refine aC ?_|exact trivial)
       all_goals obtain⟨f0,f2⟩:=K
 · rintro s ag ⟨aV,f2⟩
   rw[show mq p=false by
    rw[mq]
    have:p.all (fun z=>kZ z.1 z.2)=false:=by rw[<-Bool.not_eq_true];exact fun h=>aV (List.all_eq_true.1 h)
    rw[this];rfl]
   simp[f2]
end
end
section
set_option maxHeartbeats 8000000
open Go Go.Eng Go.RowKit Ser
attribute [local simp] a_.m a_.o a_.n a_.g e6 ez c2 cE c4 evalOp.eq_1 evalOp.eq_2 evalOp.eq_3 evalOp.eq_4 evalOp.eq_5 evalOp.eq_6 evalOp.eq_7 evalOp.eq_8 evalOp.eq_9 evalOp.eq_10 evalOp.eq_11 evalOp.eq_12 evalOp.eq_13 evalOp.eq_14 evalOp.eq_15 evalOp.eq_16 evalOp.eq_17 evalOp.eq_18 evalOp.eq_19 evalOp.eq_20 evalOp.eq_21 evalOp.eq_22 evalOp.eq_23 evalOp.eq_24 evalOp.eq_25 evalOp.eq_27 evalOp.eq_28 evalOp.eq_29 ie a6.ev cD aw af.new dW J.cells J.ch J.dO J.dJ gk gm gl gn gq gp hA hB hC ft fu cut partOf bound elems hE hF hG hH hI hJ hK hL hM hN hO hP fJ hQ hR hS hT hU hV hW hX hY hZ h0 h1 h3 h4 h5 h6 h7 h8 h9 h_ ia ib ic ey eh d_ e1 gr fS af.close af.set fU ig ih ij hD fT fR fy ee fH ga fh fI gb gd gf eY eZ e0 eW gu bP f_ gv f' gw gx eQ gy eR gz gA gB fl hz gC gD gE gF gG gH gI gJ gK gL gM gN gO gP gQ gR gS gT gU fx gV gW gX gY gZ g0 g1 g2 g3 g4 g5 g6 g7 g8 g9
attribute [local simp high] hv hx hy g_ g' ha hb hc hd hf hg hh hi hj hk hl hn ho hp hq hr hs ht
attribute [local simp] aQ List.getElem?_cons_zero List.getElem?_cons_succ dC cA fg Nat.mod_eq_of_lt iE iF iG iH fm iI iJ iK
section
attribute [local irreducible] br
attribute [local simp] di db kL cB jS
theorem ac8 {xs:List J} {n:Nat} (az:xs.length=n) (aQ:0<n) (aG:n<=1000000) (ae:(xs.all fun e=>e.cells.length == 2)=true) {y:J} (a2:([y].all fun e=>e.cells.length == 2&&e.cells.all J.ch)=true) (C:Nat->Option (List J)) (r q eL:Nat) (p:Nat->Option fr) (e:Bool) (aT:q<eL):
 jL r 2 32 ⟨aw C q (some xs),fun _=>false,eL,p⟩ (.ref q 0 n n) (.sl [y] e)=some (.ref r 0 (n+1) (n+1),j1 r ⟨aw C q (some xs),fun _=>false,eL,p⟩ (.ref q 0 n n) (xs++ [y]),.wr):=by
 subst az
 have av:cb 2 ⟨aw C q (some xs),fun _=>false,eL,p⟩ (.ref q 0 xs.length xs.length) xs:=⟨fun _ _=>rfl,.inr ⟨aQ,q,rfl,by simp[aw],rfl,aT,ae⟩⟩
 exact xn av y a2 aG eL r e
theorem xA {a:List Int} (U:a.length<=1000000) (h2:bc a<=1000000) {args:List J} (he:args.map J.loose= [aM a false,aM a false]):oi args=some (.bool true):=by
 rw[NF (a,a) ⟨⟨U,U⟩,h2,h2⟩ he];simp
theorem ac9 {a:List Int} (h:dn a):strip (a++ [0])=a:=tf h (by
 ext i
 rw[ku,ku]
 simp only[List.getD_eq_getElem?_getD]
 by_cases ab:i<a.length
 · rw[List.getElem?_append_left ab]
 · rw[List.getElem?_append_right (by omega),List.getElem?_eq_none (by omega)]
   cases lA:i - a.length with
   | zero=>simp
   | succ j=>simp)
noncomputable def kN:FuncId->Option (List J->Option J):=cT [(14,pR),(15,AM),(16,rJ),(56,vj),(57,A3),(58,vn),(59,A4),(60,Ba),(61,Bb),(62,rz),(63,tp),(64,rA),(24,oi),(55,qa),(65,pc),(66,tj),(67,ve),(51,qd),(68,rN)]
theorem ada:∀f T,kN f=some T->a3 Tryz.prog G f T:=cX (by simp only[List.forall_mem_cons];exact ⟨ur,aaJ,Fz,OP,ab5,OY,ab7,ac2,ac7,EY,NU,EZ,Ft,E3,AP,Nj,N8,E5,FK,fun _ h=>absurd h (by simp)⟩)
theorem adb:kN 14=some pR:=rfl
theorem ade:kN 15=some AM:=rfl
theorem adf:kN 16=some rJ:=rfl
theorem adg:kN 56=some vj:=rfl
theorem adh:kN 57=some A3:=rfl
theorem adi:kN 58=some vn:=rfl
theorem adj:kN 59=some A4:=rfl
theorem adk:kN 60=some Ba:=rfl
theorem adl:kN 61=some Bb:=rfl
theorem adm:kN 62=some rz:=rfl
theorem adn:kN 63=some tp:=rfl
theorem ado:kN 64=some rA:=rfl
theorem adp:kN 24=some oi:=rfl
theorem adq:kN 55=some qa:=rfl
theorem adr:kN 65=some pc:=rfl
theorem ads:kN 66=some tj:=rfl
theorem adt:kN 67=some ve:=rfl
theorem adu:kN 51=some qd:=rfl
theorem adv:kN 68=some rN:=rfl
attribute [local simp] adb ade adf adg adh adi adj adk adl adm adn ado adp adq adr ads adt adu adv
noncomputable def adw:List J->Option J:=bu (fun z:List (Bool × List Nat) × List (Bool × List Nat)=>lV z.1/\lV z.2) (fun z=>[iP z.1,iP z.2]) (fun _=> .bool true)
theorem iR:a3 Tryz.prog G 7 adw:=by
 refine bK mixed ada ck fun z ay=>?_
 obtain⟨x,y⟩:=z
 obtain⟨ae,a2⟩:=ay
 simp only at ae a2|-
 have qu:=NR ae (args:=[iP x]) (by simp)
 have qv:=NR a2 (args:=[iP y]) (by simp)
 have iO:=u_ ae (args:=[iP x]) (by simp)
 have dU:=u_ a2 (args:=[iP y]) (by simp)
 have e3:=u' ae
 have ff:=u' a2
 have lD:=head_eq
 unfold i7
 cases ba:ql x<;>rw[ba] at qu
 case true=>
  clear iO e3 dU ff qv
  refine aX [0,1,4,5,6,7,8,9,10,11,12,13,14,15,16,17,24,86,112] fun F K=>?_
  obtain⟨f0,f1,f4,f5,f6,f7,f8,f9,f10,f11,f12,f13,f14,f15,f16,f17,f24,f86,f112⟩:=K
  have H:=bN lD qu
  have K:=pJ f0 f1 f4 f5 f6 f7 f8 f9 f10 f11 f12 f13 f14 f15 f16 f17 f24 f86 f112;clear f0 f1 f4 f5 f6 f7 f8 f9 f10 f11 f12 f13 f14 f15 f16 f17 f24 f86 f112
  repeat' (first|refine ak ?_|refine al ?_|((first|refine aI ?_|refine aJ ?_|refine aK ?_|exact ao|refine an ?_);try(refine ar [0,1,4,5,6,7,8,9,10,11,12,13,14,15,16,17,24,86,112] fun F k=>?_;replace K:=k;clear k))|(refine aq (fun I=>?_) (fun I=>?_)<;>first|(exfalso;simp(disch:=omega) [H] at I;done)|(exfalso;simp at I;omega)|simp at I)|exact aB|refine aA ?_|exact aD|refine aC ?_|exact trivial)
  all_goals obtain⟨f0,f1,f4,f5,f6,f7,f8,f9,f10,f11,f12,f13,f14,f15,f16,f17,f24,f86,f112⟩:=K
 case false=>
 cases cS:ql y<;>rw[cS] at qv
 case true=>
  clear iO e3 dU ff
  refine aX [0,1,4,5,6,7,8,9,10,11,12,13,14,15,16,17,24,86,112] fun F K=>?_
  obtain⟨f0,f1,f4,f5,f6,f7,f8,f9,f10,f11,f12,f13,f14,f15,f16,f17,f24,f86,f112⟩:=K
  have H:=bI lD qu qv
  have K:=pJ f0 f1 f4 f5 f6 f7 f8 f9 f10 f11 f12 f13 f14 f15 f16 f17 f24 f86 f112;clear f0 f1 f4 f5 f6 f7 f8 f9 f10 f11 f12 f13 f14 f15 f16 f17 f24 f86 f112
  repeat' (first|refine ak ?_|refine al ?_|((first|refine aI ?_|refine aJ ?_|refine aK ?_|exact ao|refine an ?_);try(refine ar [0,1,4,5,6,7,8,9,10,11,12,13,14,15,16,17,24,86,112] fun F k=>?_;replace K:=k;clear k))|(refine aq (fun I=>?_) (fun I=>?_)<;>first|(exfalso;simp(disch:=omega) [H] at I;done)|(exfalso;simp at I;omega)|simp at I)|exact aB|refine aA ?_|exact aD|refine aC ?_|exact trivial)
  all_goals obtain⟨f0,f1,f4,f5,f6,f7,f8,f9,f10,f11,f12,f13,f14,f15,f16,f17,f24,f86,f112⟩:=K
 case false=>
 obtain⟨bT,cL⟩:=aaF ba
 have F8:xz x:=⟨by omega,fun z ay=>⟨ae z ay,by have:=cL z ay;omega⟩⟩
 have bJ:=ac1 F8 (args:=[iP x]) (by simp)
 have dh:=ac6 F8 (args:=[iP x]) (by simp)
 generalize jC x 10 4=a at*
 generalize jC y 10 4=b at*
 generalize mq x=rx at*
 have Vr:a.length<=10:=e3.len
 have bQ:=e3.len
 have bm:=ff.len
 have w5:=e3.le
 have jj:=ff.le
 have t1:=OO (a,b) ⟨⟨by simp only;omega,by simp only;omega⟩,⟨by simp only;omega,by simp only;omega⟩,e3.fin⟩ (args:=[aM a false,aM b false]) (by simp)
 have t2:=ab4 (a,b) ⟨⟨by simp only;omega,by simp only;omega⟩,by simp only;omega,by simp only;omega⟩ (args:=[aM a false,aM b false]) (by simp)
 have t3:=F3 (a,b) ⟨⟨by simp only;omega,by simp only;omega⟩,⟨by simp only;omega,by simp only;omega⟩,e3.fin⟩ (args:=[aM a false,aM b false]) (by simp)
 have t4:=ab6 (a,b) ⟨⟨by simp only;omega,by simp only;omega⟩,by simp only;omega,by simp only;omega⟩ (args:=[aM a false,aM b false]) (by simp)
 simp only at t1 t2 t3 t4
 have d1:=z3 a (by omega) (args:=[aM a false]) (by simp)
 have d2:=xp a (by omega) (args:=[aM a false]) (by simp)
 have lg:=tg a (by omega) (args:=[aM a false]) (by simp)
 rw[EL e3.fin] at lg
 have vq:=pb e3 (by decide) (by decide) (args:=[aM a false,aM a false]) (by simp)
 have tv:=tg (a++ [0]) (by simp;omega) (args:=[.sl ((a.map fun z=>aH z)++ [lW]) false]) (by
  have bO:lW.loose=aH 0:=by simp[e_,bn,cg,J.loose,kD]
  simp only[List.map_cons,List.map_nil,ee,List.map_append,nT,bO,aM]
  simp[CR])
 rw[ac9 e3.fin] at tv
 have lE:=va e3 ff (by decide) (by decide) (by decide) (by decide) (args:=[aM a false,aM b false]) (by simp)
 have lb:=AN (a,b) ⟨⟨by simp only;omega,by simp only;omega⟩,by simp only;omega,by simp only;omega⟩ (args:=[aM a false,aM b false]) (by simp)
 have qh:=pb (e3.add ff) (by decide) (by decide) (args:=[aM (dI a b) false,aM (dI a b) false]) (by simp)
 have qi:=FA e3 ff (by decide) (by decide) (by decide) (by decide) (args:=[aM a false,aM b false]) (by simp)
 have qj:=FI (a,b) ⟨⟨by simp only;omega,by simp only;omega⟩,by simp only;omega,by simp only;omega⟩ (args:=[aM a false,aM b false]) (by simp)
 have vr:=pb (e3.sub ff) (by decide) (by decide) (args:=[aM (fE a b) false,aM (fE a b) false]) (by simp)
 have vt:=pa e3 ff (by decide) (by decide) (by decide) (by decide) (by decide) (args:=[aM a false,aM b false]) (by simp)
 have u8:=FJ (a,b) ⟨⟨by simp only;omega,by simp only;omega⟩,by simp only;omega,by simp only;omega⟩ (args:=[aM a false,aM b false]) (by simp)
 have vu:=pb (e3.mul ff (by decide)) (by decide) (by decide) (args:=[aM (b2 a b) false,aM (b2 a b) false]) (by simp)
 simp only at lb qj u8
 obtain⟨⟨s1,s2⟩,kr,lC⟩:=acu (a:=a) (b:=b) (by omega) (by omega) (by omega) (by omega)
 have v1:=xA (a:=(dx a b).1) (by omega) (by omega) (args:=[aM (dx a b).1 false,aM (dx a b).1 false]) (by simp)
 have v2:=xA (a:=(dx a b).2) (by omega) (by omega) (args:=[aM (dx a b).2 false,aM (dx a b).2 false]) (by simp)
 have kJ:=xA (a:=[]) (by simp) (by simp[bc]) (args:=[.sl [] false,.sl [] false]) (by simp)
 have v4:∀q,fW a b=some q->oi [aM q false,aM q false]=some (.bool true):=fun q aT=>by
  obtain⟨U,h2⟩:=acv (by omega) (by omega) (by omega) (by omega) aT
  exact xA (a:=q) (by omega) (by omega) (by simp)
 generalize dI a b=x1 at*
 generalize fE a b=x2 at*
 generalize b2 a b=dt at*
 generalize (dx a b).1=dz at*
 generalize (dx a b).2=dF at*
 have bk:(b= []/\fW a b=none)\/(b≠ []/\fW a b=none)\/∃q,b≠ []/\fW a b=some q:=by
  by_cases aa:b= []
  · exact .inl ⟨aa,by rw[aa];rfl⟩
  · cases h:fW a b with
    | none=>exact .inr (.inl ⟨aa,rfl⟩)
    | some q=>exact .inr (.inr ⟨q,aa,rfl⟩)
 have vv:=fun(r:Nat) (h:af) (v:J)=>NM r h v (zs:=(a.map fun z=>aH z)++ [lW]) (k:=a.length+1) (by simp) (by omega) (by rw[List.all_append,u2];rfl)
 have F9:=ac8 (xs:=a.map fun z=>aH z) (n:=a.length) (y:=lW) (by simp)
 have F_:=fun(r:Nat) (h:af) (e:Bool)=>E' (l:=a) r h e
 have m9:=fun(r:Nat) (h:af) (e:Bool)=>(show jL r 2 32 h (.sl [] true) (.sl [lW] e)=some (.ref r 0 1 1,h.new r [lW],.fs) by simp[jL,elems,kg,J.cells,J.ch])
 clear e3 ff bQ bm w5 jj s1 s2 kr lC F8 bT cL
 rcases bk with⟨aa,e⟩|⟨aa,e⟩|⟨q,aa,e⟩
 · rw[if_pos aa] at t1 t2
   rw[e,Option.isSome_none,if_neg Bool.false_ne_true] at t3 t4
   clear v4
   have v4:=kJ
   by_cases eC:a= []
   · subst eC
     simp only[aM,List.map_nil,List.nil_append,List.length_nil,Nat.zero_add] at*
     have U:=Av
     refine aX [0,1,4,5,6,7,8,9,10,11,12,13,14,15,16,17,24,86,112] fun F K=>?_
     obtain⟨f0,f1,f4,f5,f6,f7,f8,f9,f10,f11,f12,f13,f14,f15,f16,f17,f24,f86,f112⟩:=K
     have H:=yz lD qu qv iO dU bJ dh t1 t2 t3 t4 d1 d2 (@lg) vq tv lE lb qh qi qj vr vt u8 vu v1 v2 kJ v4 U m9 vv
     have K:=pJ f0 f1 f4 f5 f6 f7 f8 f9 f10 f11 f12 f13 f14 f15 f16 f17 f24 f86 f112;clear f0 f1 f4 f5 f6 f7 f8 f9 f10 f11 f12 f13 f14 f15 f16 f17 f24 f86 f112
     repeat' (first|refine ak ?_|refine al ?_|((first|refine aI ?_|refine aJ ?_|refine aK ?_|exact ao|refine an ?_);try(refine ar [0,1,4,5,6,7,8,9,10,11,12,13,14,15,16,17,24,86,112] fun F k=>?_;replace K:=k;clear k))|(refine aq (fun I=>?_) (fun I=>?_)<;>first|(exfalso;simp(disch:=omega) [H] at I;done)|(exfalso;simp at I;omega)|simp at I)|exact aB|refine aA ?_|exact aD|refine aC ?_|exact trivial)
     all_goals obtain⟨f0,f1,f4,f5,f6,f7,f8,f9,f10,f11,f12,f13,f14,f15,f16,f17,f24,f86,f112⟩:=K
   · have rQ:=List.length_pos_iff.2 eC
     have U:=fun r h e=>F_ r h e eC (by omega)
     have h2:=F9 rQ (by omega) (by simp[J.cells]) (by decide)
     refine aX [0,1,4,5,6,7,8,9,10,11,12,13,14,15,16,17,24,86,112] fun F K=>?_
     obtain⟨f0,f1,f4,f5,f6,f7,f8,f9,f10,f11,f12,f13,f14,f15,f16,f17,f24,f86,f112⟩:=K
     have H:=yA lD qu qv iO dU bJ dh t1 t2 t3 t4 d1 d2 (@lg) vq tv lE lb qh qi qj vr vt u8 vu v1 v2 kJ v4 U h2 vv eC rQ
     have K:=pJ f0 f1 f4 f5 f6 f7 f8 f9 f10 f11 f12 f13 f14 f15 f16 f17 f24 f86 f112;clear f0 f1 f4 f5 f6 f7 f8 f9 f10 f11 f12 f13 f14 f15 f16 f17 f24 f86 f112
     repeat' (first|refine ak ?_|refine al ?_|((first|refine aI ?_|refine aJ ?_|refine aK ?_|exact ao|refine an ?_);try(refine ar [0,1,4,5,6,7,8,9,10,11,12,13,14,15,16,17,24,86,112] fun F k=>?_;replace K:=k;clear k))|(refine aq (fun I=>?_) (fun I=>?_)<;>first|(exfalso;simp(disch:=omega) [H] at I;done)|(exfalso;simp at I;omega)|simp at I)|exact aB|refine aA ?_|exact aD|refine aC ?_|exact trivial)
     all_goals obtain⟨f0,f1,f4,f5,f6,f7,f8,f9,f10,f11,f12,f13,f14,f15,f16,f17,f24,f86,f112⟩:=K
 · rw[if_neg aa] at t1 t2
   rw[e,Option.isSome_none,if_neg Bool.false_ne_true] at t3 t4
   clear v4
   have v4:=kJ
   by_cases eC:a= []
   · subst eC
     simp only[aM,List.map_nil,List.nil_append,List.length_nil,Nat.zero_add] at*
     have U:=Av
     refine aX [0,1,4,5,6,7,8,9,10,11,12,13,14,15,16,17,24,86,112] fun F K=>?_
     obtain⟨f0,f1,f4,f5,f6,f7,f8,f9,f10,f11,f12,f13,f14,f15,f16,f17,f24,f86,f112⟩:=K
     have H:=yz lD qu qv iO dU bJ dh t1 t2 t3 t4 d1 d2 (@lg) vq tv lE lb qh qi qj vr vt u8 vu v1 v2 kJ v4 U m9 vv
     have K:=pJ f0 f1 f4 f5 f6 f7 f8 f9 f10 f11 f12 f13 f14 f15 f16 f17 f24 f86 f112;clear f0 f1 f4 f5 f6 f7 f8 f9 f10 f11 f12 f13 f14 f15 f16 f17 f24 f86 f112
     repeat' (first|refine ak ?_|refine al ?_|((first|refine aI ?_|refine aJ ?_|refine aK ?_|exact ao|refine an ?_);try(refine ar [0,1,4,5,6,7,8,9,10,11,12,13,14,15,16,17,24,86,112] fun F k=>?_;replace K:=k;clear k))|(refine aq (fun I=>?_) (fun I=>?_)<;>first|(exfalso;simp(disch:=omega) [H] at I;done)|(exfalso;simp at I;omega)|simp at I)|exact aB|refine aA ?_|exact aD|refine aC ?_|exact trivial)
     all_goals obtain⟨f0,f1,f4,f5,f6,f7,f8,f9,f10,f11,f12,f13,f14,f15,f16,f17,f24,f86,f112⟩:=K
   · have rQ:=List.length_pos_iff.2 eC
     have U:=fun r h e=>F_ r h e eC (by omega)
     have h2:=F9 rQ (by omega) (by simp[J.cells]) (by decide)
     refine aX [0,1,4,5,6,7,8,9,10,11,12,13,14,15,16,17,24,86,112] fun F K=>?_
     obtain⟨f0,f1,f4,f5,f6,f7,f8,f9,f10,f11,f12,f13,f14,f15,f16,f17,f24,f86,f112⟩:=K
     have H:=yA lD qu qv iO dU bJ dh t1 t2 t3 t4 d1 d2 (@lg) vq tv lE lb qh qi qj vr vt u8 vu v1 v2 kJ v4 U h2 vv eC rQ
     have K:=pJ f0 f1 f4 f5 f6 f7 f8 f9 f10 f11 f12 f13 f14 f15 f16 f17 f24 f86 f112;clear f0 f1 f4 f5 f6 f7 f8 f9 f10 f11 f12 f13 f14 f15 f16 f17 f24 f86 f112
     repeat' (first|refine ak ?_|refine al ?_|((first|refine aI ?_|refine aJ ?_|refine aK ?_|exact ao|refine an ?_);try(refine ar [0,1,4,5,6,7,8,9,10,11,12,13,14,15,16,17,24,86,112] fun F k=>?_;replace K:=k;clear k))|(refine aq (fun I=>?_) (fun I=>?_)<;>first|(exfalso;simp(disch:=omega) [H] at I;done)|(exfalso;simp at I;omega)|simp at I)|exact aB|refine aA ?_|exact aD|refine aC ?_|exact trivial)
     all_goals obtain⟨f0,f1,f4,f5,f6,f7,f8,f9,f10,f11,f12,f13,f14,f15,f16,f17,f24,f86,f112⟩:=K
 · rw[if_neg aa] at t1 t2
   rw[e,Option.isSome_some,if_pos rfl,Option.getD_some] at t3 t4
   replace v4:=v4 q e
   by_cases eC:a= []
   · subst eC
     simp only[aM,List.map_nil,List.nil_append,List.length_nil,Nat.zero_add] at*
     have U:=Av
     refine aX [0,1,4,5,6,7,8,9,10,11,12,13,14,15,16,17,24,86,112] fun F K=>?_
     obtain⟨f0,f1,f4,f5,f6,f7,f8,f9,f10,f11,f12,f13,f14,f15,f16,f17,f24,f86,f112⟩:=K
     have H:=yz lD qu qv iO dU bJ dh t1 t2 t3 t4 d1 d2 (@lg) vq tv lE lb qh qi qj vr vt u8 vu v1 v2 kJ v4 U m9 vv
     have K:=pJ f0 f1 f4 f5 f6 f7 f8 f9 f10 f11 f12 f13 f14 f15 f16 f17 f24 f86 f112;clear f0 f1 f4 f5 f6 f7 f8 f9 f10 f11 f12 f13 f14 f15 f16 f17 f24 f86 f112
     repeat' (first|refine ak ?_|refine al ?_|((first|refine aI ?_|refine aJ ?_|refine aK ?_|exact ao|refine an ?_);try(refine ar [0,1,4,5,6,7,8,9,10,11,12,13,14,15,16,17,24,86,112] fun F k=>?_;replace K:=k;clear k))|(refine aq (fun I=>?_) (fun I=>?_)<;>first|(exfalso;simp(disch:=omega) [H] at I;done)|(exfalso;simp at I;omega)|simp at I)|exact aB|refine aA ?_|exact aD|refine aC ?_|exact trivial)
     all_goals obtain⟨f0,f1,f4,f5,f6,f7,f8,f9,f10,f11,f12,f13,f14,f15,f16,f17,f24,f86,f112⟩:=K
   · have rQ:=List.length_pos_iff.2 eC
     have U:=fun r h e=>F_ r h e eC (by omega)
     have h2:=F9 rQ (by omega) (by simp[J.cells]) (by decide)
     refine aX [0,1,4,5,6,7,8,9,10,11,12,13,14,15,16,17,24,86,112] fun F K=>?_
     obtain⟨f0,f1,f4,f5,f6,f7,f8,f9,f10,f11,f12,f13,f14,f15,f16,f17,f24,f86,f112⟩:=K
     have H:=yA lD qu qv iO dU bJ dh t1 t2 t3 t4 d1 d2 (@lg) vq tv lE lb qh qi qj vr vt u8 vu v1 v2 kJ v4 U h2 vv eC rQ
     have K:=pJ f0 f1 f4 f5 f6 f7 f8 f9 f10 f11 f12 f13 f14 f15 f16 f17 f24 f86 f112;clear f0 f1 f4 f5 f6 f7 f8 f9 f10 f11 f12 f13 f14 f15 f16 f17 f24 f86 f112
     repeat' (first|refine ak ?_|refine al ?_|((first|refine aI ?_|refine aJ ?_|refine aK ?_|exact ao|refine an ?_);try(refine ar [0,1,4,5,6,7,8,9,10,11,12,13,14,15,16,17,24,86,112] fun F k=>?_;replace K:=k;clear k))|(refine aq (fun I=>?_) (fun I=>?_)<;>first|(exfalso;simp(disch:=omega) [H] at I;done)|(exfalso;simp at I;omega)|simp at I)|exact aB|refine aA ?_|exact aD|refine aC ?_|exact trivial)
     all_goals obtain⟨f0,f1,f4,f5,f6,f7,f8,f9,f10,f11,f12,f13,f14,f15,f16,f17,f24,f86,f112⟩:=K
end
section
attribute [local irreducible] br
attribute [local simp] di db kL cB jS
noncomputable def nD:FuncId->Option (List J->Option J):=cT [(14,pR),(16,rJ),(43,rH),(56,vj),(62,rz),(69,zF),(51,qd),(55,qa),(32,Ar),(24,oi),(58,vn)]
theorem adx:∀f T,nD f=some T->a3 Tryz.prog G f T:=cX (by simp only[List.forall_mem_cons];exact ⟨ur,Fz,Fs,OP,EY,WZ,E5,E3,Y5,Ft,OY,fun _ h=>absurd h (by simp)⟩)
theorem ady:nD 14=some pR:=rfl
theorem adz:nD 16=some rJ:=rfl
theorem adA:nD 43=some rH:=rfl
theorem adB:nD 56=some vj:=rfl
theorem adC:nD 62=some rz:=rfl
theorem adD:nD 69=some zF:=rfl
theorem adE:nD 51=some qd:=rfl
theorem adF:nD 55=some qa:=rfl
theorem adG:nD 32=some Ar:=rfl
theorem adH:nD 24=some oi:=rfl
theorem adI:nD 58=some vn:=rfl
attribute [local simp] ady adz adA adB adC adD adE adF adG adH adI
noncomputable def Ga:List J->Option J:=bu (fun z:List (Bool × List Nat) × List (Bool × List Nat) × List (Bool × List Nat)=>lV z.1/\lV z.2.1/\lV z.2.2) (fun z=>[iP z.1,iP z.2.1,iP z.2.2]) (fun _=> .bool true)
theorem adJ {x y z:List (Bool × List Nat)} (ae:lV x) (a2:lV y) (ay:lV z) {args:List J} (he:args.map J.loose= [iP x,iP y,iP z]):Ga args=some (.bool true):=
 bM (fun _ _ _=>rfl) (x,y,z) ⟨ae,a2,ay⟩ he
theorem sT:a3 Tryz.prog G 9 Ga:=by
 refine bK mixed adx c0 fun z ay=>?_
 obtain⟨x,y,z⟩:=z
 obtain⟨ae,a2,ay⟩:=ay
 simp only at ae a2 ay|-
 have lD:=head_eq
 have iO:=u_ ae (args:=[iP x]) (by simp)
 have dU:=AJ (y,6,3) ⟨a2,by simp only;omega,by simp only;omega⟩ (args:=[iP y,.int .i64 (Z 5),.int .i64 (Z 3)]) (by
  simp only[List.map_cons,List.map_nil,ee,kL,fh];rfl)
 have vb:=AJ (z,5,3) ⟨ay,by simp only;omega,by simp only;omega⟩ (args:=[iP z,.int .i64 (Z 4),.int .i64 (Z 3)]) (by
  simp only[List.map_cons,List.map_nil,ee,kL,fh];rfl)
 have e3:=u' ae
 have ff:eD (jC y 6 3) 6 3:=⟨At _ _ _,xi _ _ _,Au a2 _ _⟩
 have kK:eD (jC z 5 3) 5 3:=⟨At _ _ _,xi _ _ _,Au ay _ _⟩
 simp only at dU vb
 generalize jC x 10 4=a at*
 generalize jC y 6 3=b at*
 generalize jC z 5 3=c at*
 unfold i9
 by_cases aa:b= []
 · subst aa
   simp only[aM,List.map_nil] at dU
   refine aX [0,1,2,6,7,8,9,10,11,12,13,14,15,16,17,18,19,21,31,75,92] fun F K=>?_
   obtain⟨f0,f1,f2,f6,f7,f8,f9,f10,f11,f12,f13,f14,f15,f16,f17,f18,f19,f21,f31,f75,f92⟩:=K
   have H:=b7 lD iO dU vb
   have K:=sv f0 f1 f2 f6 f7 f8 f9 f10 f11 f12 f13 f14 f15 f16 f17 f18 f19 f21 f31 f75 f92;clear f0 f1 f2 f6 f7 f8 f9 f10 f11 f12 f13 f14 f15 f16 f17 f18 f19 f21 f31 f75 f92
   repeat' (first|refine ak ?_|refine al ?_|((first|refine aI ?_|refine aJ ?_|refine aK ?_|exact ao|refine an ?_);try(refine ar [0,1,2,6,7,8,9,10,11,12,13,14,15,16,17,18,19,21,31,75,92] fun F k=>?_;replace K:=k;clear k))|(refine aq (fun I=>?_) (fun I=>?_)<;>first|(exfalso;simp(disch:=omega) [H] at I;done)|(exfalso;simp at I;omega)|simp at I)|exact aB|refine aA ?_|exact aD|refine aC ?_|exact trivial)
   all_goals obtain⟨f0,f1,f2,f6,f7,f8,f9,f10,f11,f12,f13,f14,f15,f16,f17,f18,f19,f21,f31,f75,f92⟩:=K
 have aS:=List.length_pos_iff.2 aa
 have el:¬b.length=0:=by omega
 have O1:(b.length == 0)=false:=by simpa using el
 have bQ:=e3.len
 have bm:=ff.len
 have w5:=e3.le
 have jj:=ff.le
 obtain⟨n,az⟩:∃n,n=a.length+1 - b.length:=⟨_,rfl⟩
 have AI:=AJ (z,b.length - 1,2) ⟨ay,by simp only;omega,by simp only;omega⟩ (args:=[iP z,.int .i64 (eJ (b.length - 1)),.int .i64 (Z 2)]) (by
  simp only[List.map_cons,List.map_nil,ee,kL,fh];rfl)
 have qQ:eD (jC z (b.length - 1) 2) 5 2:=⟨At _ _ _,Nat.le_trans (xi _ _ _) (by omega),Au ay _ _⟩
 have uG:(jC z (b.length - 1) 2).length<=b.length - 1:=xi _ _ _
 simp only at AI
 generalize jC z (b.length - 1) 2=l at*
 obtain⟨f1,f2,f3,f4⟩:=acw e3.fin aa
 rw[<-az] at f4
 have t1:=OO (a,b) ⟨⟨by simp only;omega,by simp only;omega⟩,⟨by simp only;omega,by simp only;omega⟩,e3.fin⟩ (args:=[aM a false,aM b false]) (by simp)
 simp only[if_neg aa] at t1
 obtain⟨⟨s1,s2⟩,kr,lC⟩:=acy (a:=a) (b:=b) (by omega) (by omega) (by omega) (by omega) aa
 have d1:=z3 a (by omega) (args:=[aM a false]) (by simp)
 have d2:=z3 b (by omega) (args:=[aM b false]) (by simp)
 have d3:=z3 (dx a b).2 (by omega) (args:=[aM (dx a b).2 false]) (by simp)
 have fC:=p' (show b.length - 1<b.length by omega)
 rw[show b.getD (b.length - 1) 0=lead b from rfl] at fC
 have le:a' (lead b)<=3:=Nat.le_trans (ew b _) jj
 have kU:=AL (lead b) n
 have adK:n*a' (lead b)<=10*3:=Nat.mul_le_mul (by omega) le
 have O2:=WY (lead b,n) ⟨by simp only;omega,by simp only;omega,by simp only;omega⟩ (args:=[aH (lead b),a4 n]) (by simp)
 have Gb:eD (dx a b).1 101 12000:=⟨f1,s1,kr⟩
 have O3:eD (dx a b).2 201 12000:=⟨f2,s2,lC⟩
 have t2:=pa Gb ff (by decide) (by decide) (by decide) (by decide) (by decide) (args:=[aM (dx a b).1 false,aM b false]) (by simp)
 have t3:=va (Gb.mul ff (by decide)) O3 (by decide) (by decide) (by decide) (by decide) (args:=[aM (b2 (dx a b).1 b) false,aM (dx a b).2 false]) (by simp)
 have t4:=Y4 (a,lead b^n) ⟨by simp only;omega,by simp only;omega,by simp only;omega,by simp only;omega⟩ (args:=[aM a false,aH (lead b^n)]) (by simp)
 have t5:=xA (a:=dw a (lead b^n)) (Nat.le_trans (u9 _ _) (by omega)) (Nat.le_trans (u7 _ _) (by omega)) (args:=[aM (dw a (lead b^n)) false,aM (dw a (lead b^n)) false]) (by simp)
 rw[f4] at t3
 have t6:=pa ff kK (by decide) (by decide) (by decide) (by decide) (by decide) (args:=[aM b false,aM c false]) (by simp)
 have mz:=ff.mul kK (by decide)
 have t7:=F3 (b2 b c,b) ⟨⟨Nat.le_trans mz.len (by decide),by simp only;omega⟩,⟨Nat.le_trans mz.le (by decide),by simp only;omega⟩,mz.fin⟩ (args:=[aM (b2 b c) false,aM b false]) (by simp)
 simp only[M5 (oh b c) ff.fin aa kK.fin (by rw[jB];grind),Option.isSome_some,if_true,Option.getD_some] at t7
 have t8:=pb kK (by decide) (by decide) (args:=[aM c false,aM c false]) (by simp)
 have t9:=va mz qQ (by decide) (by decide) (by decide) (by decide) (args:=[aM (b2 b c) false,aM l false]) (by simp)
 have Bc:=(mz.NJ (m:=11) (M:=7) (by decide) (by decide)).add (qQ.NJ (m:=11) (M:=7) (by decide) (by decide))
 have t10:=F3 (dI (b2 b c) l,b) ⟨⟨Nat.le_trans Bc.len (by decide),by simp only;omega⟩,⟨Nat.le_trans Bc.le (by decide),by simp only;omega⟩,Bc.fin⟩ (args:=[aM (dI (b2 b c) l) false,aM b false]) (by simp)
 simp only[acx ff.fin aa kK.fin qQ.fin uG] at t10
 have b3:IntKind.i64.wrap (Z b.length - Z 1)=Z (b.length - 1):=cA (by omega) (by omega)
 have cF:IntKind.i64.wrap (Z a.length - 1 -(Z b.length - 1))=(a.length:Int) - b.length:=by rw[wrap_i64 (by simp only[Z];omega) (by simp only[Z];omega)];simp only[Z];omega
 have e5:IntKind.i64.wrap ((a.length:Int) - b.length+Z 1)=(a.length:Int) - b.length+1:=by rw[wrap_i64 (by simp only[Z];omega) (by simp only[Z];omega)];rfl
 have oc:jm (fun a b=>if a<b then b else a) [J.int .i64 ((a.length:Int) - b.length+1),J.int .i64 (Z 0)]=some (.int .i64 (Z n)):=by
  simp only[jm,if_true]
  congr 2
  split
  · rename_i h;simp only[Z] at h|-;omega
  · rename_i h;simp only[Z] at h|-;omega
 have o2:IntKind.i64.wrap (Z b.length - 1 - Z 1)=eJ (b.length - 1):=by rw[wrap_i64 (by simp only[Z];omega) (by simp only[Z];omega)];simp only[Z,eJ];omega
 have lU:(Z b.length - 1<=Z (dx a b).2.length - 1)=False:=eq_false (by simp only[Z];omega)
 clear e3 ff kK qQ Gb O3 mz Bc kU adK le s1 s2 kr lC f1 f2 f3 f4 jj w5
 generalize (a.length:Int) - b.length=Mi at*
 generalize dI (b2 b c) l=x1 at*
 generalize b2 b c=x2 at*
 generalize dw a (lead b^n)=dt at*
 generalize lead b^n=dz at*
 generalize lead b=dF at*
 generalize b2 (dx a b).1 b=dR at*
 generalize (dx a b).1=ef at*
 generalize (dx a b).2=ep at*
 by_cases aG:l= []
 · have ks:l.length=0:=by rw[aG];rfl
   rw[decide_eq_true aG,if_pos rfl] at t10
   refine aX [0,1,2,6,7,8,9,10,11,12,13,14,15,16,17,18,19,21,31,75,92] fun F K=>?_
   obtain⟨f0,f1,f2,f6,f7,f8,f9,f10,f11,f12,f13,f14,f15,f16,f17,f18,f19,f21,f31,f75,f92⟩:=K
   have H:=RT lD iO dU vb AI t1 d1 d2 d3 fC O2 t2 t3 t4 t5 t6 t7 t8 t9 t10 b3 cF e5 oc o2 lU el O1 ks
   have K:=sv f0 f1 f2 f6 f7 f8 f9 f10 f11 f12 f13 f14 f15 f16 f17 f18 f19 f21 f31 f75 f92;clear f0 f1 f2 f6 f7 f8 f9 f10 f11 f12 f13 f14 f15 f16 f17 f18 f19 f21 f31 f75 f92
   repeat' (first|refine ak ?_|refine al ?_|((first|refine aI ?_|refine aJ ?_|refine aK ?_|exact ao|refine an ?_);try(refine ar [0,1,2,6,7,8,9,10,11,12,13,14,15,16,17,18,19,21,31,75,92] fun F k=>?_;replace K:=k;clear k))|(refine aq (fun I=>?_) (fun I=>?_)<;>first|(exfalso;simp(disch:=omega) [H] at I;done)|(exfalso;simp at I;omega)|simp at I)|exact aB|refine aA ?_|exact aD|refine aC ?_|exact trivial)
   all_goals obtain⟨f0,f1,f2,f6,f7,f8,f9,f10,f11,f12,f13,f14,f15,f16,f17,f18,f19,f21,f31,f75,f92⟩:=K
   done
 · have ks:¬l.length=0:=fun h=>aG (List.length_eq_zero_iff.1 h)
   have zP:(l.length == 0)=false:=by simpa using ks
   rw[decide_eq_false aG,if_neg Bool.false_ne_true] at t10
   refine aX [0,1,2,6,7,8,9,10,11,12,13,14,15,16,17,18,19,21,31,75,92] fun F K=>?_
   obtain⟨f0,f1,f2,f6,f7,f8,f9,f10,f11,f12,f13,f14,f15,f16,f17,f18,f19,f21,f31,f75,f92⟩:=K
   have H:=RU lD iO dU vb AI t1 d1 d2 d3 fC O2 t2 t3 t4 t5 t6 t7 t8 t9 t10 b3 cF e5 oc o2 lU el O1 ks zP
   have K:=sv f0 f1 f2 f6 f7 f8 f9 f10 f11 f12 f13 f14 f15 f16 f17 f18 f19 f21 f31 f75 f92;clear f0 f1 f2 f6 f7 f8 f9 f10 f11 f12 f13 f14 f15 f16 f17 f18 f19 f21 f31 f75 f92
   repeat' (first|refine ak ?_|refine al ?_|((first|refine aI ?_|refine aJ ?_|refine aK ?_|exact ao|refine an ?_);try(refine ar [0,1,2,6,7,8,9,10,11,12,13,14,15,16,17,18,19,21,31,75,92] fun F k=>?_;replace K:=k;clear k))|(refine aq (fun I=>?_) (fun I=>?_)<;>first|(exfalso;simp(disch:=omega) [H] at I;done)|(exfalso;simp at I;omega)|simp at I)|exact aB|refine aA ?_|exact aD|refine aC ?_|exact trivial)
   all_goals obtain⟨f0,f1,f2,f6,f7,f8,f9,f10,f11,f12,f13,f14,f15,f16,f17,f18,f19,f21,f31,f75,f92⟩:=K
   done
end
end
end Go.Proofs.YtemiagcencajeaaGreatDoor
