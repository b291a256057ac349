/- What the claim needs of the walks, put together by a program (shake.py). -/
import Derived.Test.YtemiagcencajeaaGreatDoorCqK
set_option maxRecDepth 100000
set_option linter.unusedSimpArgs false
set_option linter.unusedVariables false
set_option linter.unusedSectionVars false
namespace Go.Proofs.YtemiagcencajeaaGreatDoor
section
set_option maxHeartbeats 8000000
open Go Go.Eng Go.RowKit Ser
theorem Ou {x y:Int} (a2:y≠0):jk (Rat.divInt x y)<=max (a' x) (a' y):=by
 obtain⟨U,h2⟩:=NN (n:=x) a2
 have au:∀(a:Int) (g:Nat),a' (a/(g:Int))<=a' a:=fun a g=>ir (Int.natAbs_ediv_le_natAbs _ _)
 have aN:a' (Rat.divInt x y).num<=a' x:=by
  rw[U];split
  · rw[Dn];exact au _ _
  · exact au _ _
 have a8:(ad (Rat.divInt x y).den).length<=a' y:=by rw[h2];exact au _ _
 simp only[jk]
 omega
theorem Ov (q:Rat) {l:List Int} {L Q n:Nat} (aG:bc l<=L) (aT:jk q<=Q) (az:l.length<=n):jk (ml q l)<=L+n*(Q+Q)+2*n+2:=by
 have Ow:a' q.num<=Q/\a' (q.den:Int)<=Q:=by simp only[jk] at aT;rw[tn];omega
 rw[<-YS]
 have aQ:=Ou (x:=xg q.num q.den l) (y:=(q.den:Int)^(l.length - 1)) (Int.pow_ne_zero (qk q))
 have U:=Ot q.num (q.den:Int) Ow.1 Ow.2 (l.length - 1) l aG (by omega)
 have h2:=AL (q.den:Int) (l.length - 1)
 have aN:(l.length - 1)*(Q+Q)<=n*(Q+Q):=Nat.mul_le_mul_right _ (by omega)
 have a8:(l.length - 1)*a' (q.den:Int)<=n*(Q+Q):=Nat.mul_le_mul (by omega) (by omega)
 rw[abI] at U
 omega
theorem abJ (a b:Rat):jk (a*b)<=jk a+jk b:=by
 have h:=Ou (x:=a.num*b.num) (y:=(a.den:Int)*b.den) (Int.mul_ne_zero (qk a) (qk b))
 rw[NO] at h
 have cp:=kt a.num b.num
 have ea:=kt a.den b.den
 rw[tn,tn] at ea
 simp only[jk] at*
 omega
theorem abK (z:Int):jk (z:Rat)<=max (a' z) 1:=by
 have h:(ad 1).length<=1:=cN.2 (by rw[q1];decide)
 simp only[jk,Rat.num_intCast,Rat.den_intCast]
 omega
theorem abL (q:Rat) {a:List Int} {k:Nat} (h:k<a.length):ml q (a.drop k)=ml q (a.drop (k+1))*q+((a.getD k 0:Int):Rat):=by
 rw[drop_cons h]
 show ((a.getD k 0:Int):Rat)+q*ev q _=_
 rw[Rat.mul_comm,Rat.add_comm];rfl
end
section
set_option maxHeartbeats 8000000
open Go Go.Eng Go.RowKit Ser
theorem AX (c:Int) (n:Nat):bc (term c n)<=a' c:=Nat.le_trans (aaX _) (mh.2 fun x ae=>by
 rcases List.mem_append.1 ae with ae|ae
 · rw[(List.mem_replicate.1 ae).2,rj];omega
 · rw[List.mem_singleton.1 ae];exact Nat.le_refl _)
theorem AY (c:Int) (n:Nat):(term c n).length<=n+1:=by
 have:=p8 (List.replicate n 0++ [c])
 simp at this;exact this
end
section
set_option maxHeartbeats 8000000
open Go Go.Eng Go.RowKit Ser
attribute [local simp] a_.m a_.o a_.n a_.g e6 ez c2 cE c4 evalOp.eq_1 evalOp.eq_2 evalOp.eq_3 evalOp.eq_4 evalOp.eq_5 evalOp.eq_6 evalOp.eq_7 evalOp.eq_8 evalOp.eq_9 evalOp.eq_10 evalOp.eq_11 evalOp.eq_12 evalOp.eq_13 evalOp.eq_14 evalOp.eq_15 evalOp.eq_16 evalOp.eq_17 evalOp.eq_18 evalOp.eq_19 evalOp.eq_20 evalOp.eq_21 evalOp.eq_22 evalOp.eq_23 evalOp.eq_24 evalOp.eq_25 evalOp.eq_27 evalOp.eq_28 evalOp.eq_29 ie a6.ev cD aw af.new dW J.cells J.ch J.dO J.dJ gk gm gl gn gq gp hA hB hC ft fu cut partOf bound elems hE hF hG hH hI hJ hK hL hM hN hO hP fJ hQ hR hS hT hU hV hW hX hY hZ h0 h1 h3 h4 h5 h6 h7 h8 h9 h_ ia ib ic ey eh d_ e1 gr fS af.close af.set fU ig ih ij hD fT fR fy ee fH ga fh fI gb gd gf eY eZ e0 eW gu bP f_ gv f' gw gx eQ gy eR gz gA gB fl hz gC gD gE gF gG gH gI gJ gK gL gM gN gO gP gQ gR gS gT gU fx gV gW gX gY gZ g0 g1 g2 g3 g4 g5 g6 g7 g8 g9
attribute [local simp high] hv hx hy g_ g' ha hb hc hd hf hg hh hi hj hk hl hn ho hp hq hr hs ht
attribute [local simp] aQ List.getElem?_cons_zero List.getElem?_cons_succ dC cA fg Nat.mod_eq_of_lt iE iF iG iH fm iI iJ iK
section
attribute [local irreducible] br
attribute [local simp] di db kL cB jS
noncomputable def xu:FuncId->Option (List J->Option J):=cT [(95,AS),(105,AW),(104,AV),(106,vi)]
theorem abM:∀f T,xu f=some T->a3 Tryz.prog G f T:=cX (by simp only[List.forall_mem_cons];exact ⟨aa6,abF,abC,Oq,fun _ h=>absurd h (by simp)⟩)
theorem abN:xu 95=some AS:=rfl
theorem abO:xu 105=some AW:=rfl
theorem abP:xu 104=some AV:=rfl
theorem abQ:xu 106=some vi:=rfl
attribute [local simp] abN abO abP abQ
def Ox (q:Rat) (a:List Int) (n i:Nat) (s:aW):Prop:=s.h.cells 4=some [qr (ml q (a.drop (n - i)))]/\s.h.cells 0=some [qr q]/\s.h.cells 1=some [.agg [.bool false,.sl [] true,.sl [] true]]/\4<s.h.next/\s.h.shut 1=false/\s.h.shut 4=false/\∀j,s.h.next<=j->s.h.shut j=false
noncomputable def AZ:List J->Option J:=bu (fun z:List Int × Rat=>(z.1.length<=100/\bc z.1<=1000)/\jk z.2<=100) (fun z=>[aM z.1 false,qr z.2]) (fun z=>qr (ml z.2 z.1))
theorem abR (z:List Int × Rat) (h:(z.1.length<=100/\bc z.1<=1000)/\jk z.2<=100) {args:List J} (he:args.map J.loose= [aM z.1 false,qr z.2]):AZ args=some (qr (ml z.2 z.1)):=bM (fun z w h=>by simp only[List.cons.injEq,J.int.injEq,J.bool.injEq,J.sl.injEq,cI,cH,cU,cV,cP,bY,cf,cO,bP,true_and,and_true] at h;simp[h]) z h he
theorem abS:a3 Tryz.prog G 21 AZ:=by
 refine bK mixed abM im fun z ay=>?_
 obtain⟨a,q⟩:=z
 obtain⟨⟨bQ,cp⟩,xv⟩:=ay
 simp only at bQ cp xv|-
 have sg:IntKind.i64.wrap (Z a.length - Z 1)=eJ a.length:=kG (by omega)
 obtain⟨n,az⟩:∃n,n=a.length:=⟨_,rfl⟩
 have t1:=Ok 0 trivial (args:=[.agg [.bool false,.sl [] true]]) (by simp[e_,bn])
 unfold i21
 refine aX [0,1,3,4,5,6,13] fun F K=>?_
 obtain⟨f0,f1,f3,f4,f5,f6,f13⟩:=K
 have H:=bN sg t1
 have K:=dN f0 f1 f3 f4 f5 f6 f13;clear f0 f1 f3 f4 f5 f6 f13
 repeat' (first|refine ak ?_|refine al ?_|((first|refine aI ?_|refine aJ ?_|refine aK ?_|exact ao|refine an ?_);try(refine ar [0,1,3,4,5,6,13] fun F k=>?_;replace K:=k;clear k))|(refine aq (fun I=>?_) (fun I=>?_)<;>first|(exfalso;simp(disch:=omega) [H] at I;done)|(exfalso;simp at I;omega)|simp at I)|exact aB|refine aA ?_|exact aD|refine aC ?_|exact trivial)
 all_goals obtain⟨f0,f1,f3,f4,f5,f6,f13⟩:=K
 refine ix n (fun i s=>Ox q a n i s/\s.F 6= .int .i64 (eJ (n - i))) (Ox q a n n) (fun _=>False) ?_ ?_ ?_ (fun _ _ h=>h.elim)
 · refine⟨⟨?_,by simp[aw],by simp[aw],by simp,rfl,rfl,fun _ _=>rfl⟩,by rw[az,Nat.sub_zero];exact f6⟩
   rw[Nat.sub_zero,az,List.drop_length,abH]
   rfl
 · rintro i s ab ag ⟨⟨c7,cY,cn,n7,s1,lC,aE⟩,kS⟩
   replace f0:=(ag 0 rfl).trans f0;replace f3:=(ag 3 rfl).trans f3;replace f4:=(ag 4 rfl).trans f4;replace f5:=(ag 5 rfl).trans f5
   clear f6
   have f6:=kS
   have K:=bH f0 f3 f4 f5 f6;clear f0 f3 f4 f5 f6
   refine bU [0,3,4,5,6,13] fun F k=>?_;clear K
   obtain⟨f0,f3,f4,f5,f6,f13⟩:=k
   by_cases a8:i<n
   · obtain⟨k,oU⟩:∃k,n - i=k+1:=⟨n - i - 1,by omega⟩
     rw[oU,nZ] at f6
     rw[oU] at c7
     have vU:n -(i+1)=k:=by omega
     have xf:k<a.length:=by omega
     have jQ:=rG xf
     have o2:IntKind.i64.wrap (Z k - Z 1)=eJ (n -(i+1)):=by rw[vU];exact kG (by omega)
     have Oy:=Ov q (l:=a.drop (k+1)) (L:=1000) (Q:=100) (n:=100) (Nat.le_trans (aaC a _) cp) xv (by rw[List.length_drop];omega)
     have FO:=ew a k
     have eN:=abL q xf
     generalize ml q (a.drop (k+1))=r at*
     generalize m2:ml q (a.drop k)=dh at*
     have dp:=abJ r q
     have dr:=abK (a.getD k 0)
     have t2:=abE (r,q) ⟨by simp only;omega,by simp only;omega⟩ (args:=[qr r,qr q]) (by simp)
     have t3:=Ok (a.getD k 0) trivial (args:=[aH (a.getD k 0)]) (by simp)
     have t4:=abB (r*q,((a.getD k 0:Int):Rat)) ⟨by simp only;omega,by simp only;omega⟩ (args:=[qr (r*q),qr ((a.getD k 0:Int):Rat)]) (by simp)
     simp only at t2 t3 t4
     rw[<-eN] at t4
     generalize ((a.getD k 0:Int):Rat)=rx at*
     generalize r*q=mn at*
     generalize a.getD k 0=x at*
     clear eN Oy dp dr FO
     have H:=j2 xf jQ c7 cY cn s1 lC o2 aE t2 t3 t4
     have K:=en f0 f3 f4 f5 f6 f13;clear f0 f3 f4 f5 f6 f13
     repeat' (first|refine ak ?_|refine al ?_|((first|refine aI ?_|refine aJ ?_|refine aK ?_|exact ao|refine an ?_);try(refine ar [0,3,4,5,6,13] fun F k=>?_;replace K:=k;clear k))|(refine aq (fun I=>?_) (fun I=>?_)<;>first|(exfalso;simp(disch:=omega) [H] at I;done)|(exfalso;simp at I;omega)|simp at I)|exact aB|refine aA ?_|exact aD|refine aC ?_|exact trivial)
     all_goals obtain⟨f0,f3,f4,f5,f6,f13⟩:=K
     exact ⟨by rw[vU,m2];simp[aw],cY,cn,by simp only;omega,s1,lC,fun j aO=>aE j (by simp only at aO;omega)⟩
   · obtain rfl:i=n:=by omega
     rw[show eJ (i - i)= -1 by rw[Nat.sub_self];rfl] at f6
     have o2:=re
     have H:=bN o2 aE
     have K:=en f0 f3 f4 f5 f6 f13;clear f0 f3 f4 f5 f6 f13
     repeat' (first|refine ak ?_|refine al ?_|((first|refine aI ?_|refine aJ ?_|refine aK ?_|exact ao|refine an ?_);try(refine ar [0,3,4,5,6,13] fun F k=>?_;replace K:=k;clear k))|(refine aq (fun I=>?_) (fun I=>?_)<;>first|(exfalso;simp(disch:=omega) [H] at I;done)|(exfalso;simp at I;omega)|simp at I)|exact aB|refine aA ?_|exact aD|refine aC ?_|exact trivial)
     all_goals obtain⟨f0,f3,f4,f5,f6,f13⟩:=K
     exact ⟨c7,cY,cn,by simp only;omega,s1,lC,fun j aO=>aE j (by simp only at aO;omega)⟩
 · rintro s ag ⟨c7,cY,cn,n7,s1,lC,aE⟩
   replace f0:=(ag 0 rfl).trans f0;replace f3:=(ag 3 rfl).trans f3;replace f4:=(ag 4 rfl).trans f4;replace f5:=(ag 5 rfl).trans f5
   clear f6
   rw[Nat.sub_self,List.drop_zero] at c7
   have K:=bN f4 f5;clear f4 f5
   refine bU [4,5] fun F k=>?_;clear K
   obtain⟨f4,f5⟩:=k
   generalize ml q a=r at*
   have H:=bH c7 cn s1 lC aE
   have K:=bN f4 f5;clear f4 f5
   repeat' (first|refine ak ?_|refine al ?_|((first|refine aI ?_|refine aJ ?_|refine aK ?_|exact ao|refine an ?_);try(refine ar [4,5] fun F k=>?_;replace K:=k;clear k))|(refine aq (fun I=>?_) (fun I=>?_)<;>first|(exfalso;simp(disch:=omega) [H] at I;done)|(exfalso;simp at I;omega)|simp at I)|exact aB|refine aA ?_|exact aD|refine aC ?_|exact trivial)
   all_goals obtain⟨f4,f5⟩:=K
end
end
section
open Ser
def dx (a b:List Int):List Int × List Int:=mP b (a.length+1 - b.length) ([],a)
theorem Oz {a b:List Int} (h:a.length<b.length):dx a b=([],a):=by
 rw[dx,show a.length+1 - b.length=0 by omega];rfl
theorem abT (a:List Int) (c:Int):bd (a.map fun x=>x*c)=C c*bd a:=by
 rw[<-ru,dw,mN]
theorem FP (a:List Int) (c:Int) (i:Nat):(a.map fun x=>x*c).getD i 0=a.getD i 0*c:=by
 simp only[List.getD_eq_getElem?_getD,List.getElem?_map]
 cases a[i]? <;>simp
theorem abU {q Q:List Int} {k:Nat} {l c:Int} (aT:bd q=bd Q) (ay:q.getD k 0=0) (ag:k<q.length):
 bd ((q.map fun x=>x*l).set k c)=bd (dI (dw Q l) (term c k)):=by
 rw[EK (by rw[List.length_map];exact ag),abT,FP,ay,mi,ru,rv,aT]
 congr 2;omega
theorem abV {b rest R:List Int} {k:Nat} (aa:b≠ []) (aU:bd rest=bd R) (aG:rest.length=k+b.length) {c:Int} (I:c=rest.getD (k+(b.length - 1)) 0):
 bd ((List.range (k+(b.length - 1))).map fun i=>if k<=i then rest.getD i 0*lead b - c*b.getD (i - k) 0 else rest.getD i 0*lead b)=bd (fE (dw R (lead b)) (b2 (term c k) b)):=by
 have U:=List.length_pos_iff.2 aa
 have e:∀i,(bd (fE (dw R (lead b)) (b2 (term c k) b))).c i=lead b*rest.getD i 0 -(if i<k then 0 else c*b.getD (i - k) 0):=fun i=>by
  rw[o4,ru,jB,rv,<-aU,zW,od,z1]
  rfl
 refine z0 (fun i ab=>?_) fun i ab=>?_
 · rw[e]
   by_cases h:k<=i
   · rw[if_neg (by omega),if_pos h,Int.mul_comm]
   · rw[if_pos (by omega),if_neg h,Int.mul_comm];omega
 · rw[e,if_neg (by omega)]
   by_cases h:i=k+(b.length - 1)
   · subst h
     rw[<-I,show k+(b.length - 1) - k=b.length - 1 by omega,lead,Int.mul_comm];omega
   · rw[mO (by omega),mO (by omega)];simp
theorem A0 {a b:List Int} (h:bd a=bd b) (i:Nat):a.getD i 0=b.getD i 0:=congrArg (fun s=>s.c i) h
theorem FQ {x l:Int} (h:l=0\/x%l≠0):exact x l=none:=if_neg fun⟨U,h2⟩=>h.elim U fun h=>h (Int.emod_eq_zero_of_dvd h2)
theorem OA {x l:Int} (h:¬(l=0\/x%l≠0)):exact x l=some (x/l):=if_pos ⟨fun U=>h (.inl U),Int.dvd_of_emod_eq_zero (Decidable.byContradiction fun h2=>h (.inr h2))⟩
def rP (a b:List Int):Option (List Int × List Int):=mj b (a.length+1 - b.length) ([],a)
theorem tq {a b:List Int} (aa:b≠ []):fW a b=(rP a b).bind fun(q,r)=>if r= [] then some q else none:=by rw[fW,if_neg aa];rfl
end
section
set_option maxHeartbeats 8000000
open Go Go.Eng Go.RowKit Ser
attribute [local simp] a_.m a_.o a_.n a_.g e6 ez c2 cE c4 evalOp.eq_1 evalOp.eq_2 evalOp.eq_3 evalOp.eq_4 evalOp.eq_5 evalOp.eq_6 evalOp.eq_7 evalOp.eq_8 evalOp.eq_9 evalOp.eq_10 evalOp.eq_11 evalOp.eq_12 evalOp.eq_13 evalOp.eq_14 evalOp.eq_15 evalOp.eq_16 evalOp.eq_17 evalOp.eq_18 evalOp.eq_19 evalOp.eq_20 evalOp.eq_21 evalOp.eq_22 evalOp.eq_23 evalOp.eq_24 evalOp.eq_25 evalOp.eq_27 evalOp.eq_28 evalOp.eq_29 ie a6.ev cD aw af.new dW J.cells J.ch J.dO J.dJ gk gm gl gn gq gp hA hB hC ft fu cut partOf bound elems hE hF hG hH hI hJ hK hL hM hN hO hP fJ hQ hR hS hT hU hV hW hX hY hZ h0 h1 h3 h4 h5 h6 h7 h8 h9 h_ ia ib ic ey eh d_ e1 gr fS af.close af.set fU ig ih ij hD fT fR fy ee fH ga fh fI gb gd gf eY eZ e0 eW gu bP f_ gv f' gw gx eQ gy eR gz gA gB fl hz gC gD gE gF gG gH gI gJ gK gL gM gN gO gP gQ gR gS gT gU fx gV gW gX gY gZ g0 g1 g2 g3 g4 g5 g6 g7 g8 g9
attribute [local simp high] hv hx hy g_ g' ha hb hc hd hf hg hh hi hj hk hl hn ho hp hq hr hs ht
attribute [local simp] aQ List.getElem?_cons_zero List.getElem?_cons_succ dC cA fg Nat.mod_eq_of_lt iE iF iG iH fm iI iJ iK
section
attribute [local irreducible] br
attribute [local simp] di db kL cB jS
noncomputable def FR:FuncId->Option (List J->Option J):=cT [(21,AZ),(106,vi)]
theorem abW:∀f T,FR f=some T->a3 Tryz.prog G f T:=cX (by simp only[List.forall_mem_cons];exact ⟨abS,Oq,fun _ h=>absurd h (by simp)⟩)
theorem abX:FR 21=some AZ:=rfl
theorem abY:FR 106=some vi:=rfl
attribute [local simp] abX abY
noncomputable def abZ:List J->Option J:=bu (fun z:List Int × Rat=>(z.1.length<=100/\bc z.1<=1000)/\jk z.2<=100) (fun z=>[aM z.1 false,qr z.2]) (fun z=> .int .i64 (gg (ml z.2 z.1).num))
theorem tr:a3 Tryz.prog G 23 abZ:=by
 refine bK mixed abW iM fun z ay=>?_
 obtain⟨a,q⟩:=z
 have yU:=ay
 obtain⟨⟨bQ,cp⟩,xv⟩:=ay
 simp only at bQ cp xv yU|-
 have t1:=abR (a,q) yU (args:=[aM a false,qr q]) (by simp)
 have Oy:=Ov q (L:=1000) (Q:=100) (n:=100) cp xv bQ
 simp only at t1
 generalize ml q a=r at*
 have t2:=abG r (by omega) (args:=[qr r]) (by simp)
 unfold i23
 refine aX [0,1,3,4] fun F K=>?_
 obtain⟨f0,f1,f3,f4⟩:=K
 have H:=bN t1 t2
 have K:=b7 f0 f1 f3 f4;clear f0 f1 f3 f4
 repeat' (first|refine ak ?_|refine al ?_|((first|refine aI ?_|refine aJ ?_|refine aK ?_|exact ao|refine an ?_);try(refine ar [0,1,3,4] fun F k=>?_;replace K:=k;clear k))|(refine aq (fun I=>?_) (fun I=>?_)<;>first|(exfalso;simp(disch:=omega) [H] at I;done)|(exfalso;simp at I;omega)|simp at I)|exact aB|refine aA ?_|exact aD|refine aC ?_|exact trivial)
 all_goals obtain⟨f0,f1,f3,f4⟩:=K
noncomputable def qo:FuncId->Option (List J->Option J):=cT [(63,tp),(144,rK),(33,vd),(145,AR),(65,pc),(68,rN),(67,ve),(116,u4)]
theorem OB:∀f T,qo f=some T->a3 Tryz.prog G f T:=cX (by simp only[List.forall_mem_cons];exact ⟨NU,FG,N5,aaZ,AP,FK,N8,Nx,fun _ h=>absurd h (by simp)⟩)
theorem OC:qo 63=some tp:=rfl
theorem OD:qo 144=some rK:=rfl
theorem OE:qo 33=some vd:=rfl
theorem OF:qo 145=some AR:=rfl
theorem OG:qo 65=some pc:=rfl
theorem OH:qo 68=some rN:=rfl
theorem OI:qo 67=some ve:=rfl
theorem OJ:qo 116=some u4:=rfl
attribute [local simp] OC OD OE OF OG OH OI OJ
structure nB (a b:List Int) (L m:Nat) (Q R:List Int):Prop where
 eq:mP b m (Q,R)=dx a b
 fD:Q.length<=101
 gj:R.length<=201
 ts:bc Q<=1000+L
 dL:bc R<=1000+L
theorem nB.step {a b:List Int} {L m:Nat} {Q R:List Int} (av:nB a b L (m+1) Q R) (aa:b.length<=100) (dU:bc b<=1000) (hm:m<=100) {c l:Int} (I:c=R.getD (m+(b.length - 1)) 0) (aG:l=lead b):
 nB a b (L+1003) m (dI (dw Q l) (term c m)) (fE (dw R l) (b2 (term c m) b)):=by
 subst aG I
 have bL:=ew R (m+(b.length - 1))
 have cj:a' (lead b)<=bc b:=ew b _
 have dd:=Fv (dw Q (lead b)) (term (R.getD (m+(b.length - 1)) 0) m)
 have my:=Fw (dw R (lead b)) (b2 (term (R.getD (m+(b.length - 1)) 0) m) b)
 have kB:=u7 Q (lead b)
 have mV:=u7 R (lead b)
 have nu:=AX (R.getD (m+(b.length - 1)) 0) m
 have A1:=AY (R.getD (m+(b.length - 1)) 0) m
 have ra:=u6 (a:=term (R.getD (m+(b.length - 1)) 0) m) (b:=b) (by omega)
 have ab0:=Fx (dw Q (lead b)) (term (R.getD (m+(b.length - 1)) 0) m)
 have ab1:=Fy (dw R (lead b)) (b2 (term (R.getD (m+(b.length - 1)) 0) m) b)
 have ab2:=u9 Q (lead b)
 have ab3:=u9 R (lead b)
 have A2:=xm (term (R.getD (m+(b.length - 1)) 0) m) b
 obtain⟨e,U,h2,aN,a8⟩:=av
 exact ⟨e,by omega,by omega,by omega,by omega⟩
theorem nB.pre {a b:List Int} {L m:Nat} {Q R:List Int} (av:nB a b L (m+1) Q R) (aa:b.length<=100) (dU:bc b<=1000) (hm:m<=100) {c l:Int} (I:c=R.getD (m+(b.length - 1)) 0) (aG:l=lead b):
 (a' c<=1000+L/\a' l<=1000)/\((dw Q l).length<=101/\bc (dw Q l)<=2000+L)/\((dw R l).length<=201/\bc (dw R l)<=2000+L)/\((term c m).length<=101/\bc (term c m)<=1000+L)/\(b2 (term c m) b).length<=201/\bc (b2 (term c m) b)<=2001+L:=by
 obtain⟨-,U,h2,aN,a8⟩:=av
 have bL:=ew R (m+(b.length - 1))
 have cj:a' (lead b)<=bc b:=ew b _
 rw[<-I] at bL
 rw[<-aG] at cj
 have kB:=u7 Q l
 have mV:=u7 R l
 have nu:=AX c m
 have A1:=AY c m
 have ra:=u6 (a:=term c m) (b:=b) (by omega)
 have ab2:=u9 Q l
 have ab3:=u9 R l
 have A2:=xm (term c m) b
 refine⟨⟨?_,?_⟩,⟨?_,?_⟩,⟨?_,?_⟩,⟨?_,?_⟩,?_,?_⟩<;>omega
def OK (a b:List Int) (n m p:Nat) (s:aW):Prop:=∃Q R e e',s.F 7=aM Q e/\s.F 8=aM R e'/\nB a b ((n - m)*1003) m Q R/\s.h.cells p=some [aH (lead b)]/\p<s.h.next/\m<=n/\s.h.shut p=false/\∀j,s.h.next<=j->s.h.shut j=false
noncomputable def A3:List J->Option J:=bu (fun z:List Int × List Int=>(z.1.length<=100/\z.2.length<=100)/\bc z.1<=1000/\bc z.2<=1000) (fun z=>[aM z.1 false,aM z.2 false]) (fun z=>if z.2= [] then .bD [aM [] false,aM [] false,a4 3] else .bD [aM (dx z.1 z.2).1 false,aM (dx z.1 z.2).2 false,a4 0])
theorem ab4 (z:List Int × List Int) (h:(z.1.length<=100/\z.2.length<=100)/\bc z.1<=1000/\bc z.2<=1000) {args:List J} (he:args.map J.loose= [aM z.1 false,aM z.2 false]):A3 args=some (if z.2= [] then .bD [aM [] false,aM [] false,a4 3] else .bD [aM (dx z.1 z.2).1 false,aM (dx z.1 z.2).2 false,a4 0]):=bM (fun z w h=>by simp only[List.cons.injEq,J.int.injEq,J.bool.injEq,J.sl.injEq,cI,cH,cU,cV,cP,bY,cf,cO,bP,true_and,and_true] at h;simp[h]) z h he
theorem ab5:a3 Tryz.prog G 57 A3:=by
 refine bK mixed OB R7 fun z ay=>?_
 obtain⟨a,b⟩:=z
 obtain⟨⟨bQ,bm⟩,iO,dU⟩:=ay
 simp only at bQ bm iO dU|-
 unfold i57
 by_cases aa:b= []
 · subst aa
   rw[if_pos rfl]
   refine aX [0,1,4,5,6,7,8,9,10,11,14,29] fun F K=>?_
   obtain⟨f0,f1,f4,f5,f6,f7,f8,f9,f10,f11,f14,f29⟩:=K
   have H:=trivial
   have K:=j2 f0 f1 f4 f5 f6 f7 f8 f9 f10 f11 f14 f29;clear f0 f1 f4 f5 f6 f7 f8 f9 f10 f11 f14 f29
   repeat' (first|refine ak ?_|refine al ?_|((first|refine aI ?_|refine aJ ?_|refine aK ?_|exact ao|refine an ?_);try(refine ar [0,1,4,5,6,7,8,9,10,11,14,29] fun F k=>?_;replace K:=k;clear k))|(refine aq (fun I=>?_) (fun I=>?_)<;>first|(exfalso;simp(disch:=omega) [H] at I;done)|(exfalso;simp at I;omega)|simp at I)|exact aB|refine aA ?_|exact aD|refine aC ?_|exact trivial)
   all_goals obtain⟨f0,f1,f4,f5,f6,f7,f8,f9,f10,f11,f14,f29⟩:=K
 rw[if_neg aa]
 have aS:=List.length_pos_iff.2 aa
 have el:¬b.length=0:=by omega
 have jj:(b.length == 0)=false:=by simpa using el
 have d1:=xp a (by omega) (args:=[aM a false]) (by simp)
 have d2:=xp b (by omega) (args:=[aM b false]) (by simp)
 have fC:=rG (show b.length - 1<b.length by omega)
 rw[show b.getD (b.length - 1) 0=lead b from rfl] at fC
 have b3:IntKind.i64.wrap (Z b.length - Z 1)=Z (b.length - 1):=cA (by omega) (by omega)
 obtain⟨n,az⟩:∃n,n=a.length+1 - b.length:=⟨_,rfl⟩
 by_cases aE:a.length<b.length
 · have cF:IntKind.i64.wrap (Z a.length - 1 -(Z b.length - 1))=(a.length:Int) - b.length:=by rw[wrap_i64 (by simp only[Z];omega) (by simp only[Z];omega)];simp only[Z];omega
   have e5:(Z 0<=(a.length:Int) - b.length)=False:=eq_false (by simp only[Z];omega)
   rw[Oz aE]
   generalize (a.length:Int) - b.length=p0 at*
   refine aX [0,1,4,5,6,7,8,9,10,11,14,29] fun F K=>?_
   obtain⟨f0,f1,f4,f5,f6,f7,f8,f9,f10,f11,f14,f29⟩:=K
   have H:=dN el jj fC b3 d1 d2 cF
   have K:=j2 f0 f1 f4 f5 f6 f7 f8 f9 f10 f11 f14 f29;clear f0 f1 f4 f5 f6 f7 f8 f9 f10 f11 f14 f29
   repeat' (first|refine ak ?_|refine al ?_|((first|refine aI ?_|refine aJ ?_|refine aK ?_|exact ao|refine an ?_);try(refine ar [0,1,4,5,6,7,8,9,10,11,14,29] fun F k=>?_;replace K:=k;clear k))|(refine aq (fun I=>?_) (fun I=>?_)<;>first|(exfalso;simp(disch:=omega) [H] at I;done)|(exfalso;simp at I;omega)|simp at I)|exact aB|refine aA ?_|exact aD|refine aC ?_|exact trivial)
   all_goals obtain⟨f0,f1,f4,f5,f6,f7,f8,f9,f10,f11,f14,f29⟩:=K
   refine ix 0 (fun i s=>s.F 7= .sl [] true/\s.F 8=aM a false/\s.F 10= .int .i64 p0) (fun s=>s.F 7= .sl [] true/\s.F 8=aM a false) (fun _=>False) ?_ ?_ ?_ (fun _ _ h=>h.elim)
   · exact ⟨f7,f8,f10⟩
   · rintro i s ab ag ⟨eK,eT,sJ⟩
     clear f7 f8 f10
     have f7:=eK
     have f8:=eT
     have f10:=sJ
     have K:=bI f7 f8 f10;clear f7 f8 f10
     refine bU [7,8,10,29] fun F k=>?_;clear K
     obtain⟨f7,f8,f10,f29⟩:=k
     have H:=e5
     have K:=b7 f7 f8 f10 f29;clear f7 f8 f10 f29
     repeat' (first|refine ak ?_|refine al ?_|((first|refine aI ?_|refine aJ ?_|refine aK ?_|exact ao|refine an ?_);try(refine ar [7,8,10,29] fun F k=>?_;replace K:=k;clear k))|(refine aq (fun I=>?_) (fun I=>?_)<;>first|(exfalso;simp(disch:=omega) [H] at I;done)|(exfalso;simp at I;omega)|simp at I)|exact aB|refine aA ?_|exact aD|refine aC ?_|exact trivial)
     all_goals obtain⟨f7,f8,f10,f29⟩:=K
     try exact ⟨f7,f8⟩
   · rintro s ag ⟨eK,eT⟩
     clear f7 f8
     have f7:=eK
     have f8:=eT
     have K:=bN f7 f8;clear f7 f8
     refine bU [4,5,6,7,8] fun F k=>?_;clear K
     obtain⟨f4,f5,f6,f7,f8⟩:=k
     have H:=trivial
     have K:=bH f4 f5 f6 f7 f8;clear f4 f5 f6 f7 f8
     repeat' (first|refine ak ?_|refine al ?_|((first|refine aI ?_|refine aJ ?_|refine aK ?_|exact ao|refine an ?_);try(refine ar [4,5,6,7,8] fun F k=>?_;replace K:=k;clear k))|(refine aq (fun I=>?_) (fun I=>?_)<;>first|(exfalso;simp(disch:=omega) [H] at I;done)|(exfalso;simp at I;omega)|simp at I)|exact aB|refine aA ?_|exact aD|refine aC ?_|exact trivial)
     all_goals obtain⟨f4,f5,f6,f7,f8⟩:=K
 have cF:IntKind.i64.wrap (Z a.length - 1 -(Z b.length - 1))=eJ n:=by rw[wrap_i64 (by simp only[Z];omega) (by simp only[Z];omega)];simp only[eJ,Z];omega
 refine aX [0,1,4,5,6,7,8,9,10,11,14,29] fun F K=>?_
 obtain⟨f0,f1,f4,f5,f6,f7,f8,f9,f10,f11,f14,f29⟩:=K
 have H:=dN el jj fC b3 d1 d2 cF
 have K:=j2 f0 f1 f4 f5 f6 f7 f8 f9 f10 f11 f14 f29;clear f0 f1 f4 f5 f6 f7 f8 f9 f10 f11 f14 f29
 repeat' (first|refine ak ?_|refine al ?_|((first|refine aI ?_|refine aJ ?_|refine aK ?_|exact ao|refine an ?_);try(refine ar [0,1,4,5,6,7,8,9,10,11,14,29] fun F k=>?_;replace K:=k;clear k))|(refine aq (fun I=>?_) (fun I=>?_)<;>first|(exfalso;simp(disch:=omega) [H] at I;done)|(exfalso;simp at I;omega)|simp at I)|exact aB|refine aA ?_|exact aD|refine aC ?_|exact trivial)
 all_goals obtain⟨f0,f1,f4,f5,f6,f7,f8,f9,f10,f11,f14,f29⟩:=K
 refine mZ (fun m s=>OK a b n m 16 s/\s.F 10= .int .i64 (eJ m)) (OK a b n 0 16) (fun _=>False) n ?_ ?_ ?_ (fun _ _ h=>h.elim)
 · refine⟨⟨[],a,true,false,f7,f8,⟨by rw[az];rfl,by simp,by omega,by simp[bc],by omega⟩,by simp[aw],by simp,Nat.le_refl _,rfl,fun _ _=>rfl⟩,f10⟩
 · rintro m s ag ⟨⟨Q,R,e,e',eK,eT,av,sT,DS,lp,FT,b8⟩,sJ⟩
   replace f1:=(ag 1 rfl).trans f1;replace f9:=(ag 9 rfl).trans f9
   clear f7 f8 f10
   have f7:=eK
   have f8:=eT
   have f10:=sJ
   have K:=bH f1 f7 f8 f9 f10;clear f1 f7 f8 f9 f10
   refine bU [1,7,8,9,10,11,29] fun F k=>?_;clear K
   obtain⟨f1,f7,f8,f9,f10,f11,f29⟩:=k
   cases m with
   | zero=>
     rw[nY] at f10
     have H:=(@re)
     have K:=dN f1 f7 f8 f9 f10 f11 f29;clear f1 f7 f8 f9 f10 f11 f29
     repeat' (first|refine ak ?_|refine al ?_|((first|refine aI ?_|refine aJ ?_|refine aK ?_|exact ao|refine an ?_);try(refine ar [1,7,8,9,10,11,29] fun F k=>?_;replace K:=k;clear k))|(refine aq (fun I=>?_) (fun I=>?_)<;>first|(exfalso;simp(disch:=omega) [H] at I;done)|(exfalso;simp at I;omega)|simp at I)|exact aB|refine aA ?_|exact aD|refine aC ?_|exact trivial)
     all_goals obtain⟨f1,f7,f8,f9,f10,f11,f29⟩:=K
     exact ⟨Q,R,e,e',f7,f8,av,sT,by simp only;omega,lp,FT,fun j aO=>b8 j (by simp only at aO;omega)⟩
   | succ m=>
     rw[nZ] at f10
     have lU:IntKind.i64.wrap (Z m+(Z b.length - 1))=Z (m+(b.length - 1)):=by rw[wrap_i64 (by simp only[Z];omega) (by simp only[Z];omega)];simp only[Z];omega
     have nz:IntKind.i64.wrap (Z m - Z 1)=eJ m:=kG (by omega)
     obtain⟨c,I⟩:∃c,c=R.getD (m+(b.length - 1)) 0:=⟨_,rfl⟩
     obtain⟨l,aG⟩:∃l,l=lead b:=⟨_,rfl⟩
     have ld:m<=100:=by omega
     obtain⟨⟨bo,bB⟩,⟨bR,b'⟩,⟨cq,cx⟩,⟨ck,ct⟩,c0,c9⟩:=av.pre bm dU ld I aG
     have n2:=av.step bm dU ld I aG
     rw[show (n -(m+1))*1003+1003=(n - m)*1003 by omega] at n2
     have bt:(n -(m+1))*1003<=101*1003:=Nat.mul_le_mul (by omega) (by omega)
     obtain⟨-,dp,dr,gi,jV⟩:=av
     have t1:=vc (R,m+(b.length - 1)) ⟨by simp only;omega,by simp only;omega⟩ (args:=[aM R e',a4 (m+(b.length - 1))]) (by simp)
     have t2:=FH (Q,l) ⟨by simp only;omega,by simp only;omega,by simp only;omega⟩ (args:=[aM Q e,aH l]) (by simp)
     have t3:=Of (c,m) ⟨by simp only;omega,by simp only;omega⟩ (args:=[aH c,a4 m]) (by simp)
     have t4:=AN (dw Q l,term c m) ⟨⟨by simp only;omega,by simp only;omega⟩,by simp only;omega,by simp only;omega⟩ (args:=[aM (dw Q l) false,aM (term c m) false]) (by simp)
     have t5:=FH (R,l) ⟨by simp only;omega,by simp only;omega,by simp only;omega⟩ (args:=[aM R e',aH l]) (by simp)
     have t6:=FJ (term c m,b) ⟨⟨by simp only;omega,by simp only;omega⟩,by simp only;omega,by simp only;omega⟩ (args:=[aM (term c m) false,aM b false]) (by simp)
     have t7:=FI (dw R l,b2 (term c m) b) ⟨⟨by simp only;omega,by simp only;omega⟩,by simp only;omega,by simp only;omega⟩ (args:=[aM (dw R l) false,aM (b2 (term c m) b) false]) (by simp)
     simp only at t1 t2 t3 t4 t5 t6 t7
     rw[<-I] at t1
     rw[<-aG] at sT
     clear bo bB bR b' cq cx ck ct c0 c9 dp dr gi jV bt I
     generalize fE (dw R l) (b2 (term c m) b)=sN at*
     generalize dI (dw Q l) (term c m)=FU at*
     generalize b2 (term c m) b=lE at*
     generalize term c m=lb at*
     generalize dw R l=qh at*
     generalize dw Q l=qi at*
     have H:=wm d2 lU nz sT DS FT b8 t1 t2 t3 t4 t5 t6 t7
     have K:=dN f1 f7 f8 f9 f10 f11 f29;clear f1 f7 f8 f9 f10 f11 f29
     repeat' (first|refine ak ?_|refine al ?_|((first|refine aI ?_|refine aJ ?_|refine aK ?_|exact ao|refine an ?_);try(refine ar [1,7,8,9,10,11,29] fun F k=>?_;replace K:=k;clear k))|(refine aq (fun I=>?_) (fun I=>?_)<;>first|(exfalso;simp(disch:=omega) [H] at I;done)|(exfalso;simp at I;omega)|simp at I)|exact aB|refine aA ?_|exact aD|refine aC ?_|exact trivial)
     all_goals obtain⟨f1,f7,f8,f9,f10,f11,f29⟩:=K
     exact ⟨m,by omega,⟨FU,sN,false,false,f7,f8,n2,by simp only[aw];rw[if_neg (by omega),<-aG];exact sT,by simp only;omega,by omega,FT,fun j aO=>b8 j (by simp only at aO;omega)⟩,rfl⟩
 · rintro s ag ⟨Q,R,e,e',eK,eT,av,-⟩
   clear f7 f8 f10
   have f7:=eK
   have f8:=eT
   have dM:dx a b=(Q,R):=av.eq.symm
   rw[dM]
   have K:=bN f7 f8;clear f7 f8
   refine bU [4,5,6,7,8] fun F k=>?_;clear K
   obtain⟨f4,f5,f6,f7,f8⟩:=k
   have H:=trivial
   have K:=bH f4 f5 f6 f7 f8;clear f4 f5 f6 f7 f8
   repeat' (first|refine ak ?_|refine al ?_|((first|refine aI ?_|refine aJ ?_|refine aK ?_|exact ao|refine an ?_);try(refine ar [4,5,6,7,8] fun F k=>?_;replace K:=k;clear k))|(refine aq (fun I=>?_) (fun I=>?_)<;>first|(exfalso;simp(disch:=omega) [H] at I;done)|(exfalso;simp at I;omega)|simp at I)|exact aB|refine aA ?_|exact aD|refine aC ?_|exact trivial)
   all_goals obtain⟨f4,f5,f6,f7,f8⟩:=K
end
end
section
set_option maxHeartbeats 8000000
open Go Go.Eng Go.RowKit Ser
structure pf (a b:List Int) (L m:Nat) (Q R:List Int):Prop where
 eq:mj b m (Q,R)=rP a b
 fD:Q.length<=101
 gj:R.length<=201
 ts:bc Q<=1000+L
 dL:bc R<=1000+L
theorem pf.stop {a b:List Int} {L m:Nat} {Q R:List Int} (av:pf a b L (m+1) Q R) (aa:b≠ []) (h:lead b=0\/R.getD (m+(b.length - 1)) 0%lead b≠0):fW a b=none:=by
 have e:=av.eq
 rw[mj,FQ h] at e
 rw[tq aa,<-e];rfl
theorem pf.step {a b:List Int} {L m:Nat} {Q R:List Int} (av:pf a b L (m+1) Q R) (aa:b.length<=100) (dU:bc b<=1000) (hm:m<=100) {c l:Int} (aG:l=lead b) (h:¬(l=0\/R.getD (m+(b.length - 1)) 0%l≠0)) (I:c=R.getD (m+(b.length - 1)) 0/l):
 pf a b (L+1003) m (dI Q (term c m)) (fE R (b2 (term c m) b))/\a' c<=1000+L:=by
 subst aG
 obtain⟨e,U,h2,aN,a8⟩:=av
 rw[mj,OA h,<-I] at e
 have jH:a' (R.getD (m+(b.length - 1)) 0/lead b)<=a' (R.getD (m+(b.length - 1)) 0):=ir (Int.natAbs_ediv_le_natAbs _ _)
 rw[<-I] at jH
 have bL:=ew R (m+(b.length - 1))
 have dd:=Fv Q (term c m)
 have my:=Fw R (b2 (term c m) b)
 have nu:=AX c m
 have A1:=AY c m
 have ra:=u6 (a:=term c m) (b:=b) (by omega)
 have ab0:=Fx Q (term c m)
 have ab1:=Fy R (b2 (term c m) b)
 have A2:=xm (term c m) b
 exact ⟨⟨e,by omega,by omega,by omega,by omega⟩,by omega⟩
end
section
set_option maxHeartbeats 8000000
open Go Go.Eng Go.RowKit Ser
attribute [local simp] a_.m a_.o a_.n a_.g e6 ez c2 cE c4 evalOp.eq_1 evalOp.eq_2 evalOp.eq_3 evalOp.eq_4 evalOp.eq_5 evalOp.eq_6 evalOp.eq_7 evalOp.eq_8 evalOp.eq_9 evalOp.eq_10 evalOp.eq_11 evalOp.eq_12 evalOp.eq_13 evalOp.eq_14 evalOp.eq_15 evalOp.eq_16 evalOp.eq_17 evalOp.eq_18 evalOp.eq_19 evalOp.eq_20 evalOp.eq_21 evalOp.eq_22 evalOp.eq_23 evalOp.eq_24 evalOp.eq_25 evalOp.eq_27 evalOp.eq_28 evalOp.eq_29 ie a6.ev cD aw af.new dW J.cells J.ch J.dO J.dJ gk gm gl gn gq gp hA hB hC ft fu cut partOf bound elems hE hF hG hH hI hJ hK hL hM hN hO hP fJ hQ hR hS hT hU hV hW hX hY hZ h0 h1 h3 h4 h5 h6 h7 h8 h9 h_ ia ib ic ey eh d_ e1 gr fS af.close af.set fU ig ih ij hD fT fR fy ee fH ga fh fI gb gd gf eY eZ e0 eW gu bP f_ gv f' gw gx eQ gy eR gz gA gB fl hz gC gD gE gF gG gH gI gJ gK gL gM gN gO gP gQ gR gS gT gU fx gV gW gX gY gZ g0 g1 g2 g3 g4 g5 g6 g7 g8 g9
attribute [local simp high] hv hx hy g_ g' ha hb hc hd hf hg hh hi hj hk hl hn ho hp hq hr hs ht
attribute [local simp] aQ List.getElem?_cons_zero List.getElem?_cons_succ dC cA fg Nat.mod_eq_of_lt iE iF iG iH fm iI iJ iK
section
attribute [local irreducible] br
attribute [local simp] di db kL cB jS
attribute [local simp] OC OD OE OF OG OH OI OJ
def OL (a b:List Int) (n m:Nat) (s:aW):Prop:=∃Q R e e',s.F 6=aM Q e/\s.F 7=aM R e'/\pf a b ((n - m)*1003) m Q R/\m<=n/\∀j,s.h.next<=j->s.h.shut j=false
noncomputable def A4:List J->Option J:=bu (fun z:List Int × List Int=>(z.1.length<=100/\z.2.length<=100)/\bc z.1<=1000/\bc z.2<=1000) (fun z=>[aM z.1 false,aM z.2 false]) (fun z=>if (fW z.1 z.2).isSome then .bD [aM ((fW z.1 z.2).getD []) false,.bool true] else .bD [aM [] false,.bool false])
theorem ab6 (z:List Int × List Int) (h:(z.1.length<=100/\z.2.length<=100)/\bc z.1<=1000/\bc z.2<=1000) {args:List J} (he:args.map J.loose= [aM z.1 false,aM z.2 false]):A4 args=some (if (fW z.1 z.2).isSome then .bD [aM ((fW z.1 z.2).getD []) false,.bool true] else .bD [aM [] false,.bool false]):=bM (fun z w h=>by simp only[List.cons.injEq,J.int.injEq,J.bool.injEq,J.sl.injEq,cI,cH,cU,cV,cP,bY,cf,cO,bP,true_and,and_true] at h;simp[h]) z h he
theorem ab7:a3 Tryz.prog G 59 A4:=by
 refine bK mixed OB R8 fun z ay=>?_
 obtain⟨a,b⟩:=z
 obtain⟨⟨bQ,bm⟩,iO,dU⟩:=ay
 simp only at bQ bm iO dU|-
 unfold i59
 by_cases aa:b= []
 · subst aa
   rw[show fW a []=none from rfl,Option.isSome_none,if_neg Bool.false_ne_true]
   refine aX [0,1,4,5,6,7,8,9,10,13,22,42,57] fun F K=>?_
   obtain⟨f0,f1,f4,f5,f6,f7,f8,f9,f10,f13,f22,f42,f57⟩:=K
   have H:=trivial
   have K:=kF f0 f1 f4 f5 f6 f7 f8 f9 f10 f13 f22 f42 f57;clear f0 f1 f4 f5 f6 f7 f8 f9 f10 f13 f22 f42 f57
   repeat' (first|refine ak ?_|refine al ?_|((first|refine aI ?_|refine aJ ?_|refine aK ?_|exact ao|refine an ?_);try(refine ar [0,1,4,5,6,7,8,9,10,13,22,42,57] fun F k=>?_;replace K:=k;clear k))|(refine aq (fun I=>?_) (fun I=>?_)<;>first|(exfalso;simp(disch:=omega) [H] at I;done)|(exfalso;simp at I;omega)|simp at I)|exact aB|refine aA ?_|exact aD|refine aC ?_|exact trivial)
   all_goals obtain⟨f0,f1,f4,f5,f6,f7,f8,f9,f10,f13,f22,f42,f57⟩:=K
 have aS:=List.length_pos_iff.2 aa
 have el:¬b.length=0:=by omega
 have jj:(b.length == 0)=false:=by simpa using el
 have d1:=xp a (by omega) (args:=[aM a false]) (by simp)
 have d2:=xp b (by omega) (args:=[aM b false]) (by simp)
 obtain⟨n,az⟩:∃n,n=a.length+1 - b.length:=⟨_,rfl⟩
 have fC:=rG (show b.length - 1<b.length by omega)
 rw[show b.getD (b.length - 1) 0=lead b from rfl] at fC
 obtain⟨l,aG⟩:∃l,l=lead b:=⟨_,rfl⟩
 rw[<-aG] at fC
 have uG:a' l<=1000:=by rw[aG];exact Nat.le_trans (ew b _) dU
 have b3:IntKind.i64.wrap (Z b.length - Z 1)=Z (b.length - 1):=cA (by omega) (by omega)
 by_cases aE:a.length<b.length
 · have cF:IntKind.i64.wrap (Z a.length - 1 -(Z b.length - 1))=(a.length:Int) - b.length:=by rw[wrap_i64 (by simp only[Z];omega) (by simp only[Z];omega)];simp only[Z];omega
   have e5:(Z 0<=(a.length:Int) - b.length)=False:=eq_false (by simp only[Z];omega)
   have FV:rP a b=some ([],a):=by rw[rP,show a.length+1 - b.length=0 by omega];rfl
   have oj:fW a b=if a= [] then some [] else none:=by rw[tq aa,FV];rfl
   rw[oj]
   by_cases aV:a= []
   · subst aV
     rw[if_pos rfl,Option.isSome_some,if_pos rfl]
     have ab8:tp [.sl [] false]=some (.int .i64 (-1)):=d1
     have sk:IntKind.i64.wrap (-1 -(Z b.length - 1))=((0:Nat):Int) - b.length:=cF
     rw[show ((([]:List Int).length:Nat):Int) - b.length=((0:Nat):Int) - b.length from rfl] at e5
     clear cF d1
     generalize ((0:Nat):Int) - b.length=p0 at*
     refine aX [0,1,4,5,6,7,8,9,10,13,22,42,57] fun F K=>?_
     obtain⟨f0,f1,f4,f5,f6,f7,f8,f9,f10,f13,f22,f42,f57⟩:=K
     have H:=bH el jj ab8 d2 sk
     have K:=kF f0 f1 f4 f5 f6 f7 f8 f9 f10 f13 f22 f42 f57;clear f0 f1 f4 f5 f6 f7 f8 f9 f10 f13 f22 f42 f57
     repeat' (first|refine ak ?_|refine al ?_|((first|refine aI ?_|refine aJ ?_|refine aK ?_|exact ao|refine an ?_);try(refine ar [0,1,4,5,6,7,8,9,10,13,22,42,57] fun F k=>?_;replace K:=k;clear k))|(refine aq (fun I=>?_) (fun I=>?_)<;>first|(exfalso;simp(disch:=omega) [H] at I;done)|(exfalso;simp at I;omega)|simp at I)|exact aB|refine aA ?_|exact aD|refine aC ?_|exact trivial)
     all_goals obtain⟨f0,f1,f4,f5,f6,f7,f8,f9,f10,f13,f22,f42,f57⟩:=K
     refine ix 0 (fun i s=>s.F 6= .sl [] true/\s.F 7=aM [] false/\s.F 8= .int .i64 p0) (fun s=>s.F 6= .sl [] true/\s.F 7=aM [] false) (fun _=>False) ?_ ?_ ?_ (fun _ _ h=>h.elim)
     · exact ⟨f6,f7,by try exact f8⟩
     · rintro i s ab ag ⟨kS,eK,eT⟩
       clear f6 f7 f8
       have f6:=kS
       have f7:=eK
       have f8:=eT
       have K:=bI f6 f7 f8;clear f6 f7 f8
       refine bU [6,7,8,22] fun F k=>?_;clear K
       obtain⟨f6,f7,f8,f22⟩:=k
       have H:=e5
       have K:=b7 f6 f7 f8 f22;clear f6 f7 f8 f22
       repeat' (first|refine ak ?_|refine al ?_|((first|refine aI ?_|refine aJ ?_|refine aK ?_|exact ao|refine an ?_);try(refine ar [6,7,8,22] fun F k=>?_;replace K:=k;clear k))|(refine aq (fun I=>?_) (fun I=>?_)<;>first|(exfalso;simp(disch:=omega) [H] at I;done)|(exfalso;simp at I;omega)|simp at I)|exact aB|refine aA ?_|exact aD|refine aC ?_|exact trivial)
       all_goals obtain⟨f6,f7,f8,f22⟩:=K
       try exact ⟨f6,f7⟩
     · rintro s ag ⟨kS,eK⟩
       clear f6 f7
       have f6:=kS
       have f7:=eK
       have K:=bN f6 f7;clear f6 f7
       refine bU [4,5,6,7,57] fun F k=>?_;clear K
       obtain⟨f4,f5,f6,f7,f57⟩:=k
       have H:=trivial
       have K:=bH f4 f5 f6 f7 f57;clear f4 f5 f6 f7 f57
       repeat' (first|refine ak ?_|refine al ?_|((first|refine aI ?_|refine aJ ?_|refine aK ?_|exact ao|refine an ?_);try(refine ar [4,5,6,7,57] fun F k=>?_;replace K:=k;clear k))|(refine aq (fun I=>?_) (fun I=>?_)<;>first|(exfalso;simp(disch:=omega) [H] at I;done)|(exfalso;simp at I;omega)|simp at I)|exact aB|refine aA ?_|exact aD|refine aC ?_|exact trivial)
       all_goals obtain⟨f4,f5,f6,f7,f57⟩:=K
   · rw[if_neg aV,Option.isSome_none,if_neg Bool.false_ne_true]
     generalize (a.length:Int) - b.length=p0 at*
     have fs:0<a.length:=List.length_pos_iff.2 aV
     refine aX [0,1,4,5,6,7,8,9,10,13,22,42,57] fun F K=>?_
     obtain⟨f0,f1,f4,f5,f6,f7,f8,f9,f10,f13,f22,f42,f57⟩:=K
     have H:=bH el jj d1 d2 cF
     have K:=kF f0 f1 f4 f5 f6 f7 f8 f9 f10 f13 f22 f42 f57;clear f0 f1 f4 f5 f6 f7 f8 f9 f10 f13 f22 f42 f57
     repeat' (first|refine ak ?_|refine al ?_|((first|refine aI ?_|refine aJ ?_|refine aK ?_|exact ao|refine an ?_);try(refine ar [0,1,4,5,6,7,8,9,10,13,22,42,57] fun F k=>?_;replace K:=k;clear k))|(refine aq (fun I=>?_) (fun I=>?_)<;>first|(exfalso;simp(disch:=omega) [H] at I;done)|(exfalso;simp at I;omega)|simp at I)|exact aB|refine aA ?_|exact aD|refine aC ?_|exact trivial)
     all_goals obtain⟨f0,f1,f4,f5,f6,f7,f8,f9,f10,f13,f22,f42,f57⟩:=K
     refine ix 0 (fun i s=>s.F 7=aM a false/\s.F 8= .int .i64 p0) (fun s=>s.F 7=aM a false) (fun _=>False) ?_ ?_ ?_ (fun _ _ h=>h.elim)
     · exact ⟨f7,by try exact f8⟩
     · rintro i s ab ag ⟨eK,eT⟩
       clear f7 f8
       have f7:=eK
       have f8:=eT
       have K:=bN f7 f8;clear f7 f8
       refine bU [7,8,22] fun F k=>?_;clear K
       obtain⟨f7,f8,f22⟩:=k
       have H:=e5
       have K:=bI f7 f8 f22;clear f7 f8 f22
       repeat' (first|refine ak ?_|refine al ?_|((first|refine aI ?_|refine aJ ?_|refine aK ?_|exact ao|refine an ?_);try(refine ar [7,8,22] fun F k=>?_;replace K:=k;clear k))|(refine aq (fun I=>?_) (fun I=>?_)<;>first|(exfalso;simp(disch:=omega) [H] at I;done)|(exfalso;simp at I;omega)|simp at I)|exact aB|refine aA ?_|exact aD|refine aC ?_|exact trivial)
       all_goals obtain⟨f7,f8,f22⟩:=K
       try exact f7
     · rintro s ag eK
       clear f7
       have f7:=eK
       have K:=f7;clear f7
       refine bU [4,5,7,57] fun F k=>?_;clear K
       obtain⟨f4,f5,f7,f57⟩:=k
       have H:=fs
       have K:=b7 f4 f5 f7 f57;clear f4 f5 f7 f57
       repeat' (first|refine ak ?_|refine al ?_|((first|refine aI ?_|refine aJ ?_|refine aK ?_|exact ao|refine an ?_);try(refine ar [4,5,7,57] fun F k=>?_;replace K:=k;clear k))|(refine aq (fun I=>?_) (fun I=>?_)<;>first|(exfalso;simp(disch:=omega) [H] at I;done)|(exfalso;simp at I;omega)|simp at I)|exact aB|refine aA ?_|exact aD|refine aC ?_|exact trivial)
       all_goals obtain⟨f4,f5,f7,f57⟩:=K
 have cF:IntKind.i64.wrap (Z a.length - 1 -(Z b.length - 1))=eJ n:=by rw[wrap_i64 (by simp only[Z];omega) (by simp only[Z];omega)];simp only[eJ,Z];omega
 refine aX [0,1,4,5,6,7,8,9,10,13,22,42,57] fun F K=>?_
 obtain⟨f0,f1,f4,f5,f6,f7,f8,f9,f10,f13,f22,f42,f57⟩:=K
 have H:=bH el jj d1 d2 cF
 have K:=kF f0 f1 f4 f5 f6 f7 f8 f9 f10 f13 f22 f42 f57;clear f0 f1 f4 f5 f6 f7 f8 f9 f10 f13 f22 f42 f57
 repeat' (first|refine ak ?_|refine al ?_|((first|refine aI ?_|refine aJ ?_|refine aK ?_|exact ao|refine an ?_);try(refine ar [0,1,4,5,6,7,8,9,10,13,22,42,57] fun F k=>?_;replace K:=k;clear k))|(refine aq (fun I=>?_) (fun I=>?_)<;>first|(exfalso;simp(disch:=omega) [H] at I;done)|(exfalso;simp at I;omega)|simp at I)|exact aB|refine aA ?_|exact aD|refine aC ?_|exact trivial)
 all_goals obtain⟨f0,f1,f4,f5,f6,f7,f8,f9,f10,f13,f22,f42,f57⟩:=K
 refine mZ (fun m s=>OL a b n m s/\s.F 8= .int .i64 (eJ m)) (OL a b n 0) (fun s=>fW a b=none/\s.F 4= .sl [] true/\s.F 5= .bool false) n ?_ ?_ ?_ ?_
 · refine⟨⟨[],a,true,false,f6,f7,⟨by rw[az];rfl,by simp,by omega,by simp[bc],by omega⟩,Nat.le_refl _,fun _ _=>rfl⟩,f8⟩
 · rintro m s ag ⟨⟨Q,R,e,e',kS,eK,av,lp,b8⟩,eT⟩
   replace f1:=(ag 1 rfl).trans f1
   clear f6 f7 f8
   have f6:=kS
   have f7:=eK
   have f8:=eT
   have K:=b7 f1 f6 f7 f8;clear f1 f6 f7 f8
   refine bU [1,4,5,6,7,8,9,10,22,42] fun F k=>?_;clear K
   obtain⟨f1,f4,f5,f6,f7,f8,f9,f10,f22,f42⟩:=k
   cases m with
   | zero=>
     rw[nY] at f8
     have H:=(@re)
     have K:=iT f1 f4 f5 f6 f7 f8 f9 f10 f22 f42;clear f1 f4 f5 f6 f7 f8 f9 f10 f22 f42
     repeat' (first|refine ak ?_|refine al ?_|((first|refine aI ?_|refine aJ ?_|refine aK ?_|exact ao|refine an ?_);try(refine ar [1,4,5,6,7,8,9,10,22,42] fun F k=>?_;replace K:=k;clear k))|(refine aq (fun I=>?_) (fun I=>?_)<;>first|(exfalso;simp(disch:=omega) [H] at I;done)|(exfalso;simp at I;omega)|simp at I)|exact aB|refine aA ?_|exact aD|refine aC ?_|exact trivial)
     all_goals obtain⟨f1,f4,f5,f6,f7,f8,f9,f10,f22,f42⟩:=K
     exact ⟨Q,R,e,e',f6,f7,av,lp,fun j aO=>b8 j (by simp only at aO;omega)⟩
   | succ m=>
     rw[nZ] at f8
     have lU:IntKind.i64.wrap (Z m+(Z b.length - 1))=Z (m+(b.length - 1)):=by rw[wrap_i64 (by simp only[Z];omega) (by simp only[Z];omega)];simp only[Z];omega
     have nz:IntKind.i64.wrap (Z m - Z 1)=eJ m:=kG (by omega)
     obtain⟨x,ae⟩:∃x,x=R.getD (m+(b.length - 1)) 0:=⟨_,rfl⟩
     have ld:m<=100:=by omega
     have bt:(n -(m+1))*1003<=101*1003:=Nat.mul_le_mul (by omega) (by omega)
     have FO:=ew R (m+(b.length - 1))
     rw[<-ae] at FO
     have jV:=av.dL
     have dr:=av.gj
     have t1:=vc (R,m+(b.length - 1)) ⟨by simp only;omega,by simp only;omega⟩ (args:=[aM R e',a4 (m+(b.length - 1))]) (by simp)
     have t2:=Fk (x,l) ⟨by simp only;omega,by simp only;omega⟩ (args:=[aH x,aH l]) (by simp)
     simp only at t1 t2
     rw[<-ae] at t1
     by_cases hex:l=0\/x%l≠0
     · have eN:=av.stop aa (by rw[<-ae,<-aG];exact hex)
       rw[if_pos hex] at t2
       clear hex
       have H:=dN d2 b3 lU fC t1 t2 b8
       have K:=iT f1 f4 f5 f6 f7 f8 f9 f10 f22 f42;clear f1 f4 f5 f6 f7 f8 f9 f10 f22 f42
       repeat' (first|refine ak ?_|refine al ?_|((first|refine aI ?_|refine aJ ?_|refine aK ?_|exact ao|refine an ?_);try(refine ar [1,4,5,6,7,8,9,10,22,42] fun F k=>?_;replace K:=k;clear k))|(refine aq (fun I=>?_) (fun I=>?_)<;>first|(exfalso;simp(disch:=omega) [H] at I;done)|(exfalso;simp at I;omega)|simp at I)|exact aB|refine aA ?_|exact aD|refine aC ?_|exact trivial)
       all_goals obtain⟨f1,f4,f5,f6,f7,f8,f9,f10,f22,f42⟩:=K
       exact eN
     · rw[if_neg hex] at t2
       obtain⟨c,I⟩:∃c,c=x/l:=⟨_,rfl⟩
       rw[<-I] at t2
       obtain⟨n2,lc⟩:=av.step bm dU ld aG (by rw[<-ae];exact hex) (c:=c) (by rw[<-ae];exact I)
       rw[show (n -(m+1))*1003+1003=(n - m)*1003 by omega] at n2
       obtain⟨-,dp,-,gi,-⟩:=av
       have nu:=AX c m
       have A1:=AY c m
       have ra:=u6 (a:=term c m) (b:=b) (by omega)
       have A2:=xm (term c m) b
       have t3:=Of (c,m) ⟨by simp only;omega,by simp only;omega⟩ (args:=[aH c,a4 m]) (by simp)
       have t4:=AN (Q,term c m) ⟨⟨by simp only;omega,by simp only;omega⟩,by simp only;omega,by simp only;omega⟩ (args:=[aM Q e,aM (term c m) false]) (by simp)
       have t6:=FJ (term c m,b) ⟨⟨by simp only;omega,by simp only;omega⟩,by simp only;omega,by simp only;omega⟩ (args:=[aM (term c m) false,aM b false]) (by simp)
       have t7:=FI (R,b2 (term c m) b) ⟨⟨by simp only;omega,by simp only;omega⟩,by simp only;omega,by simp only;omega⟩ (args:=[aM R e',aM (b2 (term c m) b) false]) (by simp)
       simp only at t3 t4 t6 t7
       clear dp dr gi jV bt I nu A1 ra A2 hex lc
       generalize fE R (b2 (term c m) b)=sN at*
       generalize dI Q (term c m)=FU at*
       generalize b2 (term c m) b=lE at*
       generalize term c m=lb at*
       have H:=j2 d2 b3 lU nz fC t1 t2 t3 t4 t6 t7 b8
       have K:=iT f1 f4 f5 f6 f7 f8 f9 f10 f22 f42;clear f1 f4 f5 f6 f7 f8 f9 f10 f22 f42
       repeat' (first|refine ak ?_|refine al ?_|((first|refine aI ?_|refine aJ ?_|refine aK ?_|exact ao|refine an ?_);try(refine ar [1,4,5,6,7,8,9,10,22,42] fun F k=>?_;replace K:=k;clear k))|(refine aq (fun I=>?_) (fun I=>?_)<;>first|(exfalso;simp(disch:=omega) [H] at I;done)|(exfalso;simp at I;omega)|simp at I)|exact aB|refine aA ?_|exact aD|refine aC ?_|exact trivial)
       all_goals obtain⟨f1,f4,f5,f6,f7,f8,f9,f10,f22,f42⟩:=K
       exact ⟨m,by omega,⟨FU,sN,false,false,f6,f7,n2,by omega,fun j aO=>b8 j (by simp only at aO;omega)⟩,rfl⟩
 · rintro s ag ⟨Q,R,e,e',kS,eK,av,-⟩
   clear f6 f7 f8
   have f6:=kS
   have f7:=eK
   have oj:fW a b=if R= [] then some Q else none:=by rw[tq aa,<-av.eq];rfl
   rw[oj]
   have K:=bN f6 f7;clear f6 f7
   refine bU [4,5,6,7,57] fun F k=>?_;clear K
   obtain⟨f4,f5,f6,f7,f57⟩:=k
   by_cases eA:R= []
   · subst eA
     rw[if_pos rfl,Option.isSome_some,if_pos rfl]
     have H:=trivial
     have K:=bH f4 f5 f6 f7 f57;clear f4 f5 f6 f7 f57
     repeat' (first|refine ak ?_|refine al ?_|((first|refine aI ?_|refine aJ ?_|refine aK ?_|exact ao|refine an ?_);try(refine ar [4,5,6,7,57] fun F k=>?_;replace K:=k;clear k))|(refine aq (fun I=>?_) (fun I=>?_)<;>first|(exfalso;simp(disch:=omega) [H] at I;done)|(exfalso;simp at I;omega)|simp at I)|exact aB|refine aA ?_|exact aD|refine aC ?_|exact trivial)
     all_goals obtain⟨f4,f5,f6,f7,f57⟩:=K
   · rw[if_neg eA,Option.isSome_none,if_neg Bool.false_ne_true]
     have fs:0<R.length:=List.length_pos_iff.2 eA
     have H:=fs
     have K:=bH f4 f5 f6 f7 f57;clear f4 f5 f6 f7 f57
     repeat' (first|refine ak ?_|refine al ?_|((first|refine aI ?_|refine aJ ?_|refine aK ?_|exact ao|refine an ?_);try(refine ar [4,5,6,7,57] fun F k=>?_;replace K:=k;clear k))|(refine aq (fun I=>?_) (fun I=>?_)<;>first|(exfalso;simp(disch:=omega) [H] at I;done)|(exfalso;simp at I;omega)|simp at I)|exact aB|refine aA ?_|exact aD|refine aC ?_|exact trivial)
     all_goals obtain⟨f4,f5,f6,f7,f57⟩:=K
 · rintro s ag ⟨oj,f4,f5⟩
   rw[oj]
   simp[f4,f5]
end
section
attribute [local irreducible] br
attribute [local simp] di db cB jS
theorem OM {tab:FuncId->Option (List J->Option J)} (Y:List cR) (h:af) (b8:∀j,h.next<=j->h.shut j=false) {l:List Int} (aQ:l≠ []) (aG:l.length<=1000000) {e:Bool}:
 ∃v h',eP G (aR Tryz.prog) tab Y (.fn 118) [.sl (l.map fun z=>aH z) e] h=some (v,h')/\∃r,v= .ref r 0 l.length l.length/\h.next<=r/\iN h' r (l.map fun z=>(z,false))/\Kept h h':=by
 refine j0 I2 ?_
 have aS:=List.length_pos_iff.2 aQ
 have ap:=fun r h e=>E' r h e aQ aG
 unfold i118
 refine aX [0,2,4] fun F K=>?_
 obtain⟨f0,f2,f4⟩:=K
 have H:=bI (@aQ) aS ap
 have K:=bI f0 f2 f4;clear f0 f2 f4
 repeat' (first|refine ak ?_|refine al ?_|((first|refine b4 ?_|refine b5 ?_|refine b6 ?_|exact ao|refine an ?_);try(refine ar [0,2,4] fun F k=>?_;replace K:=k;clear k))|(refine aq (fun I=>?_) (fun I=>?_)<;>first|(exfalso;simp(disch:=omega) [H] at I;done)|(exfalso;simp at I;omega)|simp at I)|exact aB|refine aA ?_|exact aD|refine aC ?_|exact trivial)
 all_goals obtain⟨f0,f2,f4⟩:=K
 try refine ca ?_
 simp[jw,f2]
 refine⟨by omega,⟨?_,b8 _ (by omega),by simp only;omega⟩,?_⟩
 · simp only[aw,if_true,LD]
 · exact ⟨by(try simp only);omega,fun j aO=>by(try simp only[aw]);repeat (first|rfl|rw[if_neg (by omega)]),rfl,rfl⟩
end
end
section
set_option maxHeartbeats 8000000
open Go Go.Eng Go.RowKit Ser
def mo (h:af) (v:J) (o:List (Int × Bool)):Prop:=(o= []/\v= .sl [] true)\/∃r,v= .ref r 0 o.length o.length/\iN h r o
theorem mo.kept {h h':af} {v:J} {o:List (Int × Bool)} (x:mo h v o) (k:Kept h h'):mo h' v o:=x.imp id fun⟨r,U,h2⟩=>⟨r,U,h2.kept k⟩
theorem mo.outs {h:af} {v:J} {o:List (Int × Bool)} (x:mo h v o):∃ids e,∀b9 m p,dE ⟨h.cells,b9,m,p⟩ v=some (.sl (da o) e,ids)/\iu ⟨h.cells,b9,m,p⟩ v=some (.sl (da o) e,ids)/\jl ⟨h.cells,b9,m,p⟩ v=some (.sl (da o) e,ids):=by
 rcases x with⟨rfl,rfl⟩|⟨r,rfl,V⟩
 · exact ⟨[],true,fun b9 m p=>⟨rfl,rfl,rfl⟩⟩
 · have e:∀b9 m p,dE ⟨h.cells,b9,m,p⟩ (.ref r 0 o.length o.length)=some (.sl (da o) false,[r]):=fun b9 m p=>by
    rw[fJ]
    simp only[V.cells,Nat.zero_add,ri,Nat.le_refl,zv,and_self,if_true,List.drop_zero]
    rw[List.take_of_length_le (by rw[ri];exact Nat.le_refl _)]
   exact ⟨[r],false,fun b9 m p=>⟨e b9 m p,e b9 m p,e b9 m p⟩⟩
theorem nw.mo {h h':af} {v:J} {o:List (Int × Bool)} (x:nw h h' v o):mo h' v o:=x.val.imp id fun⟨r,U,_,aN⟩=>⟨r,U,aN⟩
structure qp (a b:List Int) (n m L:Nat) (c1 cJ:List (Int × Bool)):Prop where
 ex:∃Q R,mP b m (Q,R)=dx a b/\bd (zs c1)=bd Q/\bd (zs cJ)=bd R
 fD:c1.length=n
 gj:cJ.length=m+(b.length - 1)
 z:∀j,j<m->(zs c1).getD j 0=0
 ts:∀j,a' ((zs c1).getD j 0)<=L
 dL:∀j,a' ((zs cJ).getD j 0)<=L
theorem FW (n:Nat) (f:Nat->Int):zs (lg n f)=(List.range n).map f:=Nb n f
theorem ab9 (n:Nat) (f:Nat->Int):(lg n f).length=n:=by simp
theorem aca {o:List Int} {n:Nat} (h:o.length=n) (f:Int->Int):((List.range n).map fun i=>f (o.getD i 0))=o.map f:=by subst h;exact Na o f
theorem qp.step {a b:List Int} {n m L:Nat} {c1 cJ:List (Int × Bool)} (cz:qp a b n (m+1) L c1 cJ) (aa:b≠ []) (hm:m<n) {c l:Int} {ec:Bool} (I:c=(zs cJ).getD (m+(b.length - 1)) 0) (aG:l=lead b):
 qp a b n m (L+bc b+1) ((lg n fun i=>(zs c1).getD i 0*l).set m (c,ec)) (lg (m+(b.length - 1)) fun i=>if m<=i then (zs cJ).getD i 0*l - c*b.getD (i - m) 0 else (zs cJ).getD i 0*l):=by
 subst aG
 have aS:=List.length_pos_iff.2 aa
 obtain⟨⟨Q,R,e,aT,aU⟩,fD,gj,z,ts,dL⟩:=cz
 have vI:(zs c1).length=n:=by rw[n8,fD]
 have C_:(zs cJ).length=m+b.length:=by rw[n8,gj];omega
 have cj:a' (lead b)<=bc b:=ew b _
 have mB:zs ((lg n fun i=>(zs c1).getD i 0*lead b).set m (c,ec))=((zs c1).map fun x=>x*lead b).set m c:=by
  rw[wW,FW,aca vI fun x=>x*lead b]
 have mx:a' c<=L:=by rw[I];exact dL _
 have FX:c=R.getD (m+(b.length - 1)) 0:=by rw[I];exact A0 aU _
 refine⟨⟨dI (dw Q (lead b)) (term c m),fE (dw R (lead b)) (b2 (term c m) b),by rw[<-e,FX];rfl,?_,?_⟩,by simp,by simp,fun j aO=>?_,fun j=>?_,fun j=>?_⟩
 · rw[mB]
   exact abU aT (z m (by omega)) (by omega)
 · rw[FW]
   exact abV aa aU C_ I
 · rw[mB,u0 _ _ _ _ (by rw[List.length_map];omega),if_neg (by omega),FP,z j (by omega),Int.zero_mul]
 · rw[mB,u0 _ _ _ _ (by rw[List.length_map];omega)]
   split
   · omega
   · rw[FP]
     have:=kt ((zs c1).getD j 0) (lead b)
     have:=ts j
     omega
 · rw[FW,EO]
   split
   · have U:=kt ((zs cJ).getD j 0) (lead b)
     have h2:=dL j
     split
     · have aN:=kt c (b.getD (j - m) 0)
       have a8:=ew b (j - m)
       have cr:=Dp ((zs cJ).getD j 0*lead b) (c*b.getD (j - m) 0)
       omega
     · omega
   · rw[rj];omega
theorem qp.init {a b:List Int} {n:Nat} (aa:b≠ []) (az:n=a.length+1 - b.length) (aG:b.length<=a.length):qp a b n n (bc a) (List.replicate n (0,true)) (a.map fun z=>(z,false)):=by
 have aS:=List.length_pos_iff.2 aa
 have ay:∀j,(zs (List.replicate n ((0:Int),true))).getD j 0=0:=fun j=>by
  rw[zs,List.map_replicate]
  simp only[List.getD_eq_getElem?_getD,List.getElem?_replicate];split<;>rfl
 refine⟨⟨[],a,by rw[az];rfl,?_,by rw[wV]⟩,by simp,by simp;omega,fun j _=>ay j,fun j=>by rw[ay,rj];omega,fun j=>by rw[wV];exact ew a j⟩
 rw[zs,List.map_replicate,zZ,k4]
theorem qp.fin {a b:List Int} {n L:Nat} {c1 cJ:List (Int × Bool)} (cz:qp a b n 0 L c1 cJ) (aV:dn a) (aa:b≠ []) (aG:a.length<=a.length+1 - b.length+(b.length - 1)):strip (zs c1)=(dx a b).1/\strip (zs cJ)=(dx a b).2:=by
 obtain⟨⟨Q,R,e,aT,aU⟩,-⟩:=cz
 have h:=EV aa (a.length+1 - b.length) [] a (.inl rfl) aV aG
 have ax:(Q,R)=dx a b:=e
 rw[<-dx,<-ax] at h
 rw[<-ax]
 exact ⟨tf h.1 aT.symm,tf h.2.1 aU.symm⟩
end
section
set_option maxHeartbeats 8000000
open Go Go.Eng Go.RowKit Ser
attribute [local simp] a_.m a_.o a_.n a_.g e6 ez c2 cE c4 evalOp.eq_1 evalOp.eq_2 evalOp.eq_3 evalOp.eq_4 evalOp.eq_5 evalOp.eq_6 evalOp.eq_7 evalOp.eq_8 evalOp.eq_9 evalOp.eq_10 evalOp.eq_11 evalOp.eq_12 evalOp.eq_13 evalOp.eq_14 evalOp.eq_15 evalOp.eq_16 evalOp.eq_17 evalOp.eq_18 evalOp.eq_19 evalOp.eq_20 evalOp.eq_21 evalOp.eq_22 evalOp.eq_23 evalOp.eq_24 evalOp.eq_25 evalOp.eq_27 evalOp.eq_28 evalOp.eq_29 ie a6.ev cD aw af.new dW J.cells J.ch J.dO J.dJ gk gm gl gn gq gp hA hB hC ft fu cut partOf bound elems hE hF hG hH hI hJ hK hL hM hN hO hP fJ hQ hR hS hT hU hV hW hX hY hZ h0 h1 h3 h4 h5 h6 h7 h8 h9 h_ ia ib ic ey eh d_ e1 gr fS af.close af.set fU ig ih ij hD fT fR fy ee fH ga fh fI gb gd gf eY eZ e0 eW gu bP f_ gv f' gw gx eQ gy eR gz gA gB fl hz gC gD gE gF gG gH gI gJ gK gL gM gN gO gP gQ gR gS gT gU fx gV gW gX gY gZ g0 g1 g2 g3 g4 g5 g6 g7 g8 g9
attribute [local simp high] hv hx hy g_ g' ha hb hc hd hf hg hh hi hj hk hl hn ho hp hq hr hs ht
attribute [local simp] aQ List.getElem?_cons_zero List.getElem?_cons_succ dC cA fg Nat.mod_eq_of_lt iE iF iG iH fm iI iJ iK
section
attribute [local irreducible] br
attribute [local simp] di db cB jS
attribute [local simp] z5 z6 z7 z8 z9 z_ z' Aa Ab Ac Ad Ae Af Ag Ah Ai Aj Ak Al Am An Ao Ap Aq
def ON (a b:List Int) (n:Nat) (l:Int) (m:Nat) (s:aW):Prop:=∃c1 cJ L,mo s.h (s.F 10) c1/\mo s.h (s.F 9) cJ/\qp a b n m L c1 cJ/\L<=1000+(n - m)*49/\m<=n/\s.h.cells 0=some [aM b false]/\s.h.cells 23=some [aH l]/\23<s.h.next/\∀j,s.h.shut j=false
def acb (m:Nat) (s:aW):Prop:=∃p,s.F 11= .ptr p 0 0/\s.h.cells p=some [.int .i64 (eJ m)]/\p<s.h.next/\23<p
noncomputable def vj:List J->Option J:=bu (fun z:List Int × List Int=>(z.1.length<=100/\z.2.length<=100)/\(bc z.1<=1000/\bc z.2<48)/\dn z.1) (fun z=>[aM z.1 false,aM z.2 false]) (fun z=>if z.2= [] then .bD [aM [] false,aM [] false,a4 3] else .bD [aM (dx z.1 z.2).1 false,aM (dx z.1 z.2).2 false,a4 0])
theorem OO (z:List Int × List Int) (h:(z.1.length<=100/\z.2.length<=100)/\(bc z.1<=1000/\bc z.2<48)/\dn z.1) {args:List J} (he:args.map J.loose= [aM z.1 false,aM z.2 false]):vj args=some (if z.2= [] then .bD [aM [] false,aM [] false,a4 3] else .bD [aM (dx z.1 z.2).1 false,aM (dx z.1 z.2).2 false,a4 0]):=bM (fun z w h=>by simp only[List.cons.injEq,J.int.injEq,J.bool.injEq,J.sl.injEq,cI,cH,cU,cV,cP,bY,cf,cO,bP,true_and,and_true] at h;simp[h]) z h he
theorem OP:a3 Tryz.prog G 56 vj:=by
 refine bK mixed z4 IF fun z ay=>?_
 obtain⟨a,b⟩:=z
 obtain⟨⟨bQ,bm⟩,⟨iO,dU⟩,qe⟩:=ay
 simp only at bQ bm iO dU qe|-
 unfold i56
 by_cases aa:b= []
 · subst aa
   rw[if_pos rfl]
   refine aX [0,1,3,4,5,6,7,8,9,10,11,12,15,22,37,64] fun F K=>?_
   obtain⟨f0,f1,f3,f4,f5,f6,f7,f8,f9,f10,f11,f12,f15,f22,f37,f64⟩:=K
   have H:=trivial
   have K:=CB f0 f1 f3 f4 f5 f6 f7 f8 f9 f10 f11 f12 f15 f22 f37 f64;clear f0 f1 f3 f4 f5 f6 f7 f8 f9 f10 f11 f12 f15 f22 f37 f64
   repeat' (first|refine ak ?_|refine al ?_|((first|refine aI ?_|refine aJ ?_|refine aK ?_|exact ao|refine an ?_);try(refine ar [0,1,3,4,5,6,7,8,9,10,11,12,15,22,37,64] fun F k=>?_;replace K:=k;clear k))|(refine aq (fun I=>?_) (fun I=>?_)<;>first|(exfalso;simp(disch:=omega) [H] at I;done)|(exfalso;simp at I;omega)|simp at I)|exact aB|refine aA ?_|exact aD|refine aC ?_|exact trivial)
   all_goals obtain⟨f0,f1,f3,f4,f5,f6,f7,f8,f9,f10,f11,f12,f15,f22,f37,f64⟩:=K
 rw[if_neg aa]
 have aS:=List.length_pos_iff.2 aa
 have el:¬b.length=0:=by omega
 have jj:(b.length == 0)=false:=by simpa using el
 by_cases aE:a.length<b.length
 · have cF:IntKind.i64.wrap (Z a.length - Z b.length)=(a.length:Int) - b.length:=by rw[wrap_i64 (by simp only[Z];omega) (by simp only[Z];omega)];rfl
   have e5:((a.length:Int) - b.length<Z 0)=True:=eq_true (by simp only[Z];omega)
   rw[Oz aE]
   generalize (a.length:Int) - b.length=p0 at*
   refine aX [0,1,3,4,5,6,7,8,9,10,11,12,15,22,37,64] fun F K=>?_
   obtain⟨f0,f1,f3,f4,f5,f6,f7,f8,f9,f10,f11,f12,f15,f22,f37,f64⟩:=K
   have H:=b7 el jj cF e5
   have K:=CB f0 f1 f3 f4 f5 f6 f7 f8 f9 f10 f11 f12 f15 f22 f37 f64;clear f0 f1 f3 f4 f5 f6 f7 f8 f9 f10 f11 f12 f15 f22 f37 f64
   repeat' (first|refine ak ?_|refine al ?_|((first|refine aI ?_|refine aJ ?_|refine aK ?_|exact ao|refine an ?_);try(refine ar [0,1,3,4,5,6,7,8,9,10,11,12,15,22,37,64] fun F k=>?_;replace K:=k;clear k))|(refine aq (fun I=>?_) (fun I=>?_)<;>first|(exfalso;simp(disch:=omega) [H] at I;done)|(exfalso;simp at I;omega)|simp at I)|exact aB|refine aA ?_|exact aD|refine aC ?_|exact trivial)
   all_goals obtain⟨f0,f1,f3,f4,f5,f6,f7,f8,f9,f10,f11,f12,f15,f22,f37,f64⟩:=K
 have cF:IntKind.i64.wrap (Z a.length - Z b.length)=Z (a.length - b.length):=cA (by omega) (by omega)
 have b3:IntKind.i64.wrap (Z b.length - Z 1)=Z (b.length - 1):=cA (by omega) (by omega)
 obtain⟨n,az⟩:∃n,n=a.length+1 - b.length:=⟨_,rfl⟩
 have oc:IntKind.i64.wrap (Z (a.length - b.length)+Z 1)=Z n:=by rw[dC (by omega)];congr 1;omega
 have fC:=p' (show b.length - 1<b.length by omega)
 rw[show b.getD (b.length - 1) 0=lead b from rfl] at fC
 obtain⟨l,aG⟩:∃l,l=lead b:=⟨_,rfl⟩
 rw[<-aG] at fC
 have eC:a≠ []:=by rintro rfl;exact aE aS
 obtain⟨v,h',au,r,rfl,aU,V,K⟩:=OM (tab:=eU) [] ⟨aw (fun _=>none) 0 (some [aM b false]),fun _=>false,26,fun _=>none⟩ (fun _ _=>rfl) eC (by omega) (e:=false)
 have nx:Z n*32<=140737488355328:=by simp only[Z];omega
 have A5:=K.cells 0 (by simp)
 have pY:=K.next
 have qq:h'.shut=fun _=>false:=K.shut
 simp only[aw,if_true] at A5
 simp only at aU pY
 refine aX [0,1,3,4,5,6,7,8,9,10,11,12,15,22,37,64] fun F K=>?_
 obtain⟨f0,f1,f3,f4,f5,f6,f7,f8,f9,f10,f11,f12,f15,f22,f37,f64⟩:=K
 have H:=kE el jj b3 cF oc fC au nx (@sZ) A5 qq
 have K:=CB f0 f1 f3 f4 f5 f6 f7 f8 f9 f10 f11 f12 f15 f22 f37 f64;clear f0 f1 f3 f4 f5 f6 f7 f8 f9 f10 f11 f12 f15 f22 f37 f64
 repeat' (first|refine ak ?_|refine al ?_|((first|refine b4 ?_|refine b5 ?_|refine b6 ?_|exact ao|refine an ?_);try(refine ar [0,1,3,4,5,6,7,8,9,10,11,12,15,22,37,64] fun F k=>?_;replace K:=k;clear k))|(refine aq (fun I=>?_) (fun I=>?_)<;>first|(exfalso;simp(disch:=omega) [H] at I;done)|(exfalso;simp at I;omega)|simp at I)|exact aB|refine aA ?_|exact aD|refine aC ?_|exact trivial)
 all_goals obtain⟨f0,f1,f3,f4,f5,f6,f7,f8,f9,f10,f11,f12,f15,f22,f37,f64⟩:=K
 refine⟨by simp[tw,kx,qx,A5,aw,xD];decide,?_⟩
 have K:=kE f1 f3 f4 f5 f6 f7 f8 f9 f10 f11 f12;clear f1 f3 f4 f5 f6 f7 f8 f9 f10 f11 f12
 refine bU [1,3,4,5,6,7,8,9,10,11,12,37] fun F k=>?_;clear K
 obtain⟨f1,f3,f4,f5,f6,f7,f8,f9,f10,f11,f12,f37⟩:=k
 have H:=bI oc nx (@sZ)
 have K:=j2 f1 f3 f4 f5 f6 f7 f8 f9 f10 f11 f12 f37;clear f1 f3 f4 f5 f6 f7 f8 f9 f10 f11 f12 f37
 repeat' (first|refine ak ?_|refine al ?_|((first|refine b4 ?_|refine b5 ?_|refine b6 ?_|exact ao|refine an ?_);try(refine ar [1,3,4,5,6,7,8,9,10,11,12,37] fun F k=>?_;replace K:=k;clear k))|(refine aq (fun I=>?_) (fun I=>?_)<;>first|(exfalso;simp(disch:=omega) [H] at I;done)|(exfalso;simp at I;omega)|simp at I)|exact aB|refine aA ?_|exact aD|refine aC ?_|exact trivial)
 all_goals obtain⟨f1,f3,f4,f5,f6,f7,f8,f9,f10,f11,f12,f37⟩:=K
 have acd:h'.next+2≠h'.next+4+1:=by omega
 refine mZ (fun m s=>ON a b n l m s/\acb m s) (ON a b n l 0) (fun _=>False) n ?_ ?_ ?_ (fun _ _ h=>h.elim)
 · refine⟨⟨List.replicate n (0,true),a.map fun z=>(z,false),bc a,.inr ⟨h'.next+2,by simpa using f10,?_⟩,.inr ⟨r,by simpa using f9,?_⟩,qp.init aa az (by omega),by omega,Nat.le_refl _,?_,?_,?_,fun j=>rfl⟩,_,f11,?_,?_,?_⟩
   · refine⟨?_,rfl,by simp only;omega⟩
     simp only[aw]
     simp only[if_true,if_neg acd]
   · refine⟨?_,rfl,by have:=V.dj;simp only;omega⟩
     have:=V.dj
     simp only[aw]
     rw[if_neg (by omega),if_neg (by omega),if_neg (by omega)]
     exact V.cells
   · simp only[aw]
     rw[if_neg (by omega),if_neg (by omega),if_neg (by omega)]
     exact A5
   · simp only[aw]
     rw[if_neg (by omega),if_neg (by omega),if_true]
   · simp only;omega
   · simp only[aw,if_true]
     congr 3
     simp only[Z,eJ];omega
   · simp only;omega
   · omega
 · rintro m s ag ⟨⟨c1,cJ,L,vk,Or,cz,bq,lp,cY,tr,vl,b8⟩,p,ace,tt,xw,iM⟩
   replace f3:=(ag 3 rfl).trans f3;replace f8:=(ag 8 rfl).trans f8
   clear f9 f10 f11
   have f11:=ace
   have acf:0<m->∃r,s.F 9= .ref r 0 cJ.length cJ.length/\iN s.h r cJ:=fun aQ=>by
    rcases Or with⟨U,-⟩|h
    · have:=cz.gj;rw[U] at this;simp at this;omega
    · exact h
   have zR:0<m->∃r,s.F 10= .ref r 0 c1.length c1.length/\iN s.h r c1:=fun aQ=>by
    rcases vk with⟨U,-⟩|h
    · have:=cz.fD;rw[U] at this;simp at this;omega
    · exact h
   cases m with
   | zero=>
     obtain⟨oY,f9⟩:∃v,s.F 9=v:=⟨_,rfl⟩
     obtain⟨v10,f10⟩:∃v,s.F 10=v:=⟨_,rfl⟩
     rw[f9] at Or
     rw[f10] at vk
     rw[nY] at tt
     have K:=bH f3 f8 f9 f10 f11;clear f3 f8 f9 f10 f11
     refine bU [3,8,9,10,11,12,37] fun F k=>?_;clear K
     obtain⟨f3,f8,f9,f10,f11,f12,f37⟩:=k
     have H:=bN (@re) tt
     have K:=dN f3 f8 f9 f10 f11 f12 f37;clear f3 f8 f9 f10 f11 f12 f37
     repeat' (first|refine ak ?_|refine al ?_|((first|refine b4 ?_|refine b5 ?_|refine b6 ?_|exact ao|refine an ?_);try(refine ar [3,8,9,10,11,12,37] fun F k=>?_;replace K:=k;clear k))|(refine aq (fun I=>?_) (fun I=>?_)<;>first|(exfalso;simp(disch:=omega) [H] at I;done)|(exfalso;simp at I;omega)|simp at I)|exact aB|refine aA ?_|exact aD|refine aC ?_|exact trivial)
     all_goals obtain⟨f3,f8,f9,f10,f11,f12,f37⟩:=K
     exact ⟨c1,cJ,L,by show mo _ (F 10) _;rw[f10];exact vk.kept ((Kept.mF _).bump _ (by omega)),by show mo _ (F 9) _;rw[f9];exact Or.kept ((Kept.mF _).bump _ (by omega)),cz,bq,lp,cY,tr,by simp only;omega,b8⟩
   | succ m=>
     rw[nZ] at tt
     obtain⟨kR,f9,nC⟩:=acf (by omega)
     obtain⟨mn,f10,qs⟩:=zR (by omega)
     have gj:=cz.gj
     have fD:=cz.fD
     have lU:IntKind.i64.wrap (Z m+Z b.length)=Z (m+b.length):=dC (by omega)
     have nz:IntKind.i64.wrap (Z (m+b.length) - Z 1)=Z (m+(b.length - 1)):=by rw[cA (by omega) (by omega)];congr 1;omega
     have FY:IntKind.i64.wrap (Z m - Z 1)=eJ m:=kG (by omega)
     obtain⟨eO,OQ⟩:∃p,cJ[m+(b.length - 1)]? =some p:=⟨cJ[m+(b.length - 1)]'(by omega),List.getElem?_eq_getElem (by omega)⟩
     have gc:(da cJ)[m+(b.length - 1)]? =some (dv eO):=by simp[da,OQ]
     have ec:=uZ OQ
     have nh:=nC.cells
     have rm:=nC.b9
     have p6:=nC.dj
     have A6:=oX (o:=cJ) (by omega)
     have A7:m+(b.length - 1)<cJ.length:=by omega
     have FZ:Kept s.h ⟨aw s.h.cells (s.h.next+2+8) (some [dv eO]),s.h.shut,s.h.next+2+10+4,s.h.a7⟩:=(Kept.mF s.h).new _ _ (by omega) (by omega)
     have uG:a' l<48:=by rw[aG];exact Nat.lt_of_le_of_lt (ew b _) dU
     have acg:L<=1000+101*49:=by
      have:(n -(m+1))*49<=101*49:=Nat.mul_le_mul (by omega) (by omega)
      omega
     obtain⟨v2,h2,ax,o3⟩:=Ng (tab:=eU) [] ⟨aw s.h.cells (s.h.next+2+8) (some [dv eO]),s.h.shut,s.h.next+2+10+4,s.h.a7⟩ (fun j _=>b8 j) (st:=141) (caps:=[.ptr 23 0 0]) rfl (cap:=c1.length) (n:=c1.length) (qs.kept FZ) (Nat.le_refl _) (by omega) (fun i=>((zs c1).getD i 0*l,false))
      (fun g=>g.cells 23=some [aH l]/\23<g.next) (fun g ek K b=>⟨by rw[K.cells 23 b.2];exact b.1,Nat.lt_of_lt_of_le b.2 K.next⟩) ⟨(FZ.cells 23 vl).trans tr,by simp only;omega⟩ (fun i p g ab aS aa aE=>by
        have e:=uZ aS
        have:=cz.ts i
        rw[e] at this|-
        exact Y1 [] g aE aa.1 aa.2 (by omega) (by omega) (by omega))
     obtain⟨dh,rfl,m2,ny⟩:∃r,v2= .ref r 0 n n/\s.h.next+2+10+4<=r/\iN h2 r (lg n fun i=>(zs c1).getD i 0*l):=by
      rw[fD] at o3
      rcases o3.val with⟨U,-⟩|⟨r,U,h2,aN⟩
      · have:=congrArg List.length U;simp at this;omega
      · exact ⟨r,by rw[U];simp,h2,aN⟩
     have k2:=FZ.trans o3.kept
     have ln:=o3.kept.next
     simp only at ln
     have ach:=(k2.cells p xw).trans tt
     have OR:h2.cells (s.h.next+2+8)=some [dv eO]:=(o3.kept.cells (s.h.next+2+8) (by simp only;omega)).trans (by simp only[aw,if_true])
     have OS:∀j,h2.shut j=false:=fun j=>by rw[k2.shut];exact b8 j
     have F0:=ab9 n fun i=>(zs c1).getD i 0*l
     obtain⟨d',u1⟩:∃o,o=lg n fun i=>(zs c1).getD i 0*l:=⟨_,rfl⟩
     rw[<-u1] at ny F0
     have aci:=ny.cells
     have acj:=ny.dj
     have ack:=oX (o:=d') (by omega)
     obtain⟨bB,F1⟩:∃p,(da d')[m]? =some (dv p):=⟨_,wU (by omega)⟩
     have F2:=sY d' m eO
     have xx:m<n:=lp
     have acm:=(k2.cells 0 (by omega)).trans cY
     have ae9:=(k2.cells 23 vl).trans tr
     have k3:Kept s.h ⟨aw h2.cells dh (some (da (d'.set m eO))),h2.shut,h2.next+5+10,h2.a7⟩:=uN k2 (by omega) _ _ _ (by omega)
     have acn:a' eO.1<=L:=by rw[<-ec];exact cz.dL _
     obtain⟨v4,a8,bX,A8⟩:=Ng (tab:=eU) [] ⟨aw h2.cells dh (some (da (d'.set m eO))),h2.shut,h2.next+5+10,h2.a7⟩ (fun j _=>OS j) (st:=142) (caps:=[.ptr 23 0 0,.ptr p 0 0,.ptr (s.h.next+2+8) 0 0,.ptr 0 0 0]) rfl (cap:=cJ.length) (n:=m+(b.length - 1)) (nC.kept k3) (by omega) (by omega) (fun i=>(if m<=i then (zs cJ).getD i 0*l - eO.1*b.getD (i - m) 0 else (zs cJ).getD i 0*l,false))
      (fun g=>(g.cells 23=some [aH l]/\g.cells p=some [a4 m]/\g.cells (s.h.next+2+8)=some [dv eO]/\g.cells 0=some [aM b false])/\23<g.next/\p<g.next/\s.h.next+2+8<g.next) (fun g ek K b=>⟨⟨(K.cells 23 b.2.1).trans b.1.1,(K.cells p b.2.2.1).trans b.1.2.1,(K.cells _ b.2.2.2).trans b.1.2.2.1,(K.cells 0 (by have:=b.2.1;omega)).trans b.1.2.2.2⟩,Nat.lt_of_lt_of_le b.2.1 K.next,Nat.lt_of_lt_of_le b.2.2.1 K.next,Nat.lt_of_lt_of_le b.2.2.2 K.next⟩)
      ⟨⟨(k3.cells 23 vl).trans tr,(k3.cells p xw).trans tt,by simp only[aw];rw[if_neg (by omega)];exact OR,(k3.cells 0 (by omega)).trans cY⟩,by simp only;omega,by simp only;omega,by simp only;omega⟩ (fun i q g ab aT aa aE=>by
        have e:=uZ aT
        have U:=cz.dL i
        rw[e] at U|-
        exact Y3 [] g aE aa.1.1 aa.1.2.1 aa.1.2.2.1 aa.1.2.2.2 aa.2.1 aa.2.2.1 aa.2.2.2 (by have:=aa.2.1;omega) (by omega) (by omega) (by omega) (L:=L) (by omega) U uG acn dU)
     have nA:=k3.trans A8.kept
     have HQ:=A8.kept.next
     simp only at HQ
     have aco:=(nA.cells p xw).trans tt
     have OT:∀j,a8.shut j=false:=fun j=>by rw[nA.shut];exact b8 j
     have acp:p<a8.next:=Nat.lt_of_lt_of_le xw nA.next
     have acq:iN a8 dh (d'.set m eO):=(ny.put (d'.set m eO) (h2.next+5+10) h2.a7 (by omega)).kept A8.kept
     have K:=bH f3 f8 f9 f10 f11;clear f3 f8 f9 f10 f11
     refine bU [3,8,9,10,11,12,37,64] fun F k=>?_;clear K
     obtain⟨f3,f8,f9,f10,f11,f12,f37,f64⟩:=k
     have H:=RV lU nz FY tt cY tr b8 nh rm p6 A6 gc A7 xw vl ax ach OR OS aci acj ack F1 F2 F0 xx acm bX aco OT acp
     have K:=e7 f3 f8 f9 f10 f11 f12 f37 f64;clear f3 f8 f9 f10 f11 f12 f37 f64
     repeat' (first|refine ak ?_|refine al ?_|((first|refine b4 ?_|refine b5 ?_|refine b6 ?_|exact ao|refine an ?_);try(refine ar [3,8,9,10,11,12,37,64] fun F k=>?_;replace K:=k;clear k))|(refine aq (fun I=>?_) (fun I=>?_)<;>first|(exfalso;simp(disch:=omega) [H] at I;done)|(exfalso;simp at I;omega)|simp at I)|exact aB|refine aA ?_|exact aD|refine aC ?_|exact trivial)
     all_goals obtain⟨f3,f8,f9,f10,f11,f12,f37,f64⟩:=K
     have A9:Kept a8 ⟨aw a8.cells (a8.next+1) (some [J.int IntKind.i64 (eJ m)]),a8.shut,a8.next+1+2+3,a8.a7⟩:=(Kept.mF a8).new _ _ (by omega) (by omega)
     have A_:=cz.step (ec:=eO.2) aa xx ec.symm aG
     rw[<-u1] at A_
     have acr:23<a8.next:=Nat.lt_of_lt_of_le vl nA.next
     refine⟨m,by omega,⟨d'.set m eO,_,L+bc b+1,?_,?_,A_,by omega,by omega,?_,?_,by simp only;omega,OT⟩,a8.next+1,f11,by simp[aw],by simp only;omega,by omega⟩
     · show mo _ (F 10) _
       rw[f10]
       exact .inr ⟨dh,by rw[List.length_set,F0],acq.kept A9⟩
     · show mo _ (F 9) _
       rw[f9]
       exact A8.mo.kept A9
     · exact ((A9.cells 0 (by omega)).trans (nA.cells 0 (by omega))).trans cY
     · exact ((A9.cells 23 acr).trans (nA.cells 23 vl)).trans tr
 · rintro s ag ⟨c1,cJ,L,vk,Or,cz,bq,-⟩
   clear f9 f10 f11
   obtain⟨oY,f9⟩:∃v,s.F 9=v:=⟨_,rfl⟩
   obtain⟨v10,f10⟩:∃v,s.F 10=v:=⟨_,rfl⟩
   rw[f9] at Or
   rw[f10] at vk
   obtain⟨au,ax⟩:=cz.fin qe aa (by omega)
   obtain⟨ids,rC,aL⟩:=vk.outs
   obtain⟨Hm,acs,nE⟩:=Or.outs
   have gj:=cz.gj
   have fD:=cz.fD
   have OU:=tg (zs c1) (by rw[n8];omega) (args:=[.sl (da c1) rC]) (by simp only[List.map_cons,List.map_nil,ee,uO])
   have vm:=tg (zs cJ) (by rw[n8];omega) (args:=[.sl (da cJ) acs]) (by simp only[List.map_cons,List.map_nil,ee,uO])
   rw[au] at OU
   rw[ax] at vm
   generalize (dx a b).1=b3 at*
   generalize (dx a b).2=cF at*
   have K:=bN f9 f10;clear f9 f10
   refine bU [4,5,6,9,10] fun F k=>?_;clear K
   obtain⟨f4,f5,f6,f9,f10⟩:=k
   have H:=b7 aL nE OU vm
   have K:=bH f4 f5 f6 f9 f10;clear f4 f5 f6 f9 f10
   repeat' (first|refine ak ?_|refine al ?_|((first|refine b4 ?_|refine b5 ?_|refine b6 ?_|exact ao|refine an ?_);try(refine ar [4,5,6,9,10] fun F k=>?_;replace K:=k;clear k))|(refine aq (fun I=>?_) (fun I=>?_)<;>first|(exfalso;simp(disch:=omega) [H] at I;done)|(exfalso;simp at I;omega)|simp at I)|exact aB|refine aA ?_|exact aD|refine aC ?_|exact trivial)
   all_goals obtain⟨f4,f5,f6,f9,f10⟩:=K
end
end
end Go.Proofs.YtemiagcencajeaaGreatDoor
